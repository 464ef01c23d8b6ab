/- From the model's code to the abstract machine's. By the session itself. -/
import Derived.Test.YtljjabccgbakgaaAb1
namespace Go.Abs
open Go
set_option linter.unusedSimpArgs false
set_option linter.unusedVariables false

inductive Opnd where
  | tmp (t : Nat)
  | val (v : V)
  deriving Inhabited

inductive Body where
  | op (k : K) (xs : List Opnd)
  | call (f : FuncId) (xs : List Opnd)
  | callv (x : Opnd) (xs : List Opnd)

structure Ins where
  dst : Option Nat
  guard : Option (Nat × Bool)
  body : Body

/-- A drawn region: what is done in which order; an effect may not change what has been read and may be read behind it. -/
inductive Plan where
  | fin
  | val (i : Ins) (p : Plan)
  | eff (i : Ins) (floats : List Ins) (p : Plan)
  | alt (p q : Plan)

inductive Cd where
  | skip
  | rgn (is : List Ins)
  | rgnD (p : Plan)
  | seq (a b : Cd)
  | cond (c : Opnd) (a b : Cd)
  | block (id : Nat) (c : Cd)
  | loop (c : Cd)
  | exit (id : Nat)
  | ret

inductive Res where
  | tmp (t : Nat)
  | cell (t n : Nat) (one : Bool)

structure AF where
  npar : Nat
  ntmps : Nat
  res : List Res
  body : Cd

def constT : Value → Option T
  | .bool b => some (.bool b)
  | .int k n => some (.int k n)
  | .string s => some (.str s)
  | .pointer none => some .nilp
  | .nilFunc => some .nilf
  | .slice none 0 0 => some (.lst 0 true [])
  | _ => none

def constTs : List Value → Option (List T)
  | [] => some []
  | v :: vs => match constT v with
    | some x => match constTs vs with
      | some xs => some (x :: xs)
      | none => none
    | none => none

/-- The cells of a zero value. -/
def zeroCells (P : Program) (t : TypeId) : Option (List T) :=
  match P.info? t with
  | some i => match i.zero with
    | some z => constTs z.cells.toList
    | none => none
  | none => none

def isAggD : Option TypeDesc → Option Bool
  | some (.struct _) => some true
  | some (.array _ _) => some true
  | some _ => some false
  | none => none

def zeroElem (P : Program) (t : TypeId) : Option T :=
  match isAggD (P.underlying t), zeroCells P t with
  | some true, some cs => some (.agg cs)
  | some false, some [x] => some x
  | _, _ => none

def sizeT (P : Program) (t : TypeId) : Option Nat := (P.info? t).map (·.size)
def bytesT (P : Program) (t : TypeId) : Option Nat := (P.info? t).map (·.bytes)

def cOpnd : Operand → Option Opnd
  | .tmp t => some (.tmp t)
  | .const (.agg cs) => match constTs cs.toList with
    | some xs => some (.val (.agg (xs.map .t)))
    | none => none
  | .const v => match constT v with
    | some x => some (.val (.t x))
    | none => none
  | .func f => some (.val (.fn f []))
  | .global _ => none

def cOpnds : List Operand → Option (List Opnd)
  | [] => some []
  | x :: xs => match cOpnd x with
    | some y => match cOpnds xs with
      | some ys => some (y :: ys)
      | none => none
    | none => none

/-- The fields' places in a struct's cells. -/
def fieldPlaces (P : Program) (fs : Array Field) : List Nat → Option (List (Nat × Nat))
  | [] => some []
  | i :: is => match fs[i]? with
    | some f => match sizeT P f.type with
      | some n => match fieldPlaces P fs is with
        | some r => some ((f.offset, n) :: r)
        | none => none
      | none => none
    | none => none

def sliceArgs (l h : Option Operand) : List Operand := l.toList ++ h.toList

/-- Operations other than calls; wr: a slice that the program makes by a literal is written later on. -/
def cOp (P : Program) (wr : Bool) : Op → Option (K × List Operand)
  | .move x => some (.id, [x])
  | .assign x => some (.id, [x])
  | .pick c a b => some (.pick, [c, a, b])
  | .alloc e => match zeroCells P e with
    | some z => some (.alloc z, [])
    | none => none
  | .box _ x => some (.box, [x])
  | .build t ps =>
    match zeroCells P t, P.underlying t with
    | some z, some (.struct fs) => match fieldPlaces P fs (ps.toList.map (·.1)) with
      | some pl => if (fs.toList.all fun f => (sizeT P f.type).isSome) = true then some (.build z pl, ps.toList.map (·.2)) else none
      | none => none
    | some z, some (.array _ e) => match sizeT P e with
      | some n => some (.build z (ps.toList.map fun p => (p.1 * n, n)), ps.toList.map (·.2))
      | none => none
    | _, _ => none
  | .buildSlice t len ps =>
    match P.underlying t with
    | some (.slice e) => match sizeT P e, zeroElem P e with
      | some n, some z => if n ≠ 0 ∧ len * n ≤ 2 ^ 24 ∧ z.cells.length = n then some (if wr then .buildRow n z len (ps.toList.map (·.1)) else .buildSlice n z len (ps.toList.map (·.1)), ps.toList.map (·.2)) else none
      | _, _ => none
    | _ => none
  | .load t a => match isAggD (P.underlying t), sizeT P t with
    | some true, some n => some (.loadN n, [a])
    | some false, some 1 => some (.load1, [a])
    | _, _ => none
  | .store t a v => match sizeT P t with
    | some n => if n ≠ 0 then some (.store n, [a, v]) else none
    | none => none
  | .nilCheck x => some (.nilck, [x])
  | .binOp op t x y _ => match P.underlying t with
    | some (.int _) => some (.bin op, [x, y])
    | some .string => some (.bin op, [x, y])
    | some .bool => some (.binB op, [x, y])
    | _ => none
  | .unOp op _ x => some (.un op, [x])
  | .convert s d x => match P.underlying s, P.underlying d with
    | some (.int _), some (.int k) => some (.conv k, [x])
    | some .string, some .string => some (.strId, [x])
    | some (.slice e), some .string => match P.underlying e with
      | some (.int .u8) => some (.toStr, [x])
      | _ => none
    | some (.slice _), some (.slice e) => match P.underlying e with
      | some (.int .u8) => if s = d then some (.mark, [x]) else none
      | _ => none
    | _, _ => none
  | .makeFunc (.func f) first captured => if first = #[] then some (.mkfn f, captured.toList) else none
  | .makeSlice t l c => match P.underlying t with
    | some (.slice e) => match sizeT P e, bytesT P e, zeroElem P e with
      | some n, some b, some z => if n ≠ 0 ∧ z.cells.length = n then some (.makeSlice n b z, [l, c]) else none
      | _, _, _ => none
    | _ => none
  | .slice t x l h none => match P.underlying t with
    | some (.slice e) => match sizeT P e with
      | some n => some (.slice n l.isSome h.isSome, x :: sliceArgs l h)
      | none => none
    | some .string => some (.sliceStr l.isSome h.isSome, x :: sliceArgs l h)
    | some (.array n e) => match sizeT P e with
      | some 1 => some (.sliceA n l.isSome h.isSome, x :: sliceArgs l h)
      | _ => none
    | _ => none
  | .fieldAddr t x i => match P.underlying t with
    | some (.struct fs) => match fs[i]? with
      | some f => match sizeT P f.type with
        | some 0 => none
        | some _ => some (.fieldA f.offset, [x])
        | none => none
      | none => none
    | _ => none
  | .field t x i => match P.underlying t with
    | some (.struct fs) => match fs[i]? with
      | some f => match isAggD (P.underlying f.type), sizeT P f.type with
        | some true, some n => some (.field f.offset n false, [x])
        | some false, some n => some (.field f.offset n true, [x])
        | _, _ => none
      | none => none
    | _ => none
  | .indexAddr t x i => match P.underlying t with
    | some (.slice e) => match sizeT P e with
      | some n => if n ≠ 0 then some (.idxS n, [x, i]) else none
      | none => none
    | some (.array len e) => match sizeT P e with
      | some n => some (.idxA len n, [x, i])
      | none => none
    | _ => none
  | .index t x i => match P.underlying t with
    | some .string => some (.idxStr, [x, i])
    | _ => none
  | .extract x i => some (.extract i, [x])
  | _ => none

def cBuiltin (P : Program) (b : Builtin) (ts : List TypeId) (xs : List Operand) : Option (K × List Operand) :=
  match b, ts, xs with
  | .len, t :: _, [x] => match P.underlying t with
    | some .string => some (.lenS, [x])
    | some (.slice _) => some (.len, [x])
    | some (.array n _) => some (.lenC n, [x])
    | _ => none
  | .min, _, [x, y] => some (.min2, [x, y])
  | .max, _, [x, y] => some (.max2, [x, y])
  | .append, t :: u :: _, [x, y] => match P.underlying t with
    | some (.slice e) => match sizeT P e, bytesT P e, zeroElem P e with
      | some n, some b, some z => if n ≠ 0 ∧ b ≠ 0 ∧ z.cells.length = n then
          match P.underlying u with
          | some (.slice _) => some (.append n b, [x, y])
          | some .string => if n = 1 then some (.appendStr b, [x, y]) else none
          | _ => none
        else none
      | _, _, _ => none
    | _ => none
  | .copy, t :: u :: _, [x, y] => match P.underlying t with
    | some (.slice e) => match sizeT P e, P.underlying u with
      | some n, some (.slice _) => if n ≠ 0 then some (.copy n, [x, y]) else none
      | _, _ => none
    | _ => none
  | _, _, _ => none

def cOpBody (P : Program) (wr : Bool) (op : Op) : Option Body :=
  match cOp P wr op with
  | some (k, ys) => match cOpnds ys with
    | some xs => some (.op k xs)
    | none => none
  | none => none

def cCall (P : Program) (c : Call) : Option Body :=
  match c.callee with
  | .value (.func f) => match cOpnds c.args.toList with
    | some xs => some (.call f xs)
    | none => none
  | .value x => match cOpnd x with
    | some y => match cOpnds c.args.toList with
      | some xs => some (.callv y xs)
      | none => none
    | none => none
  | .builtin b => match cBuiltin P b c.argTypes.toList c.args.toList with
    | some (k, ys) => match cOpnds ys with
      | some xs => some (.op k xs)
      | none => none
    | none => none
  | _ => none

def cBody (P : Program) (wr : Bool) : Op → Option Body
  | .call c => cCall P c
  | op => cOpBody P wr op

def cGuard (ops : Array Oper) : Option (Nat × Bool) → Option (Option (Nat × Bool))
  | none => some none
  | some (j, want) => match (ops[j]?).bind (·.dst) with
    | some t => some (some (t, want))
    | none => none

def dstOk : Option Nat → Nat → Bool
  | some d, n => decide (d < n)
  | none, _ => true

def cIns (P : Program) (wr : Bool) (ntmps : Nat) (ops : Array Oper) (o : Oper) : Option Ins :=
  match cGuard ops o.guard, cBody P wr o.op with
  | some g, some b => if dstOk o.dst ntmps = true then some ⟨o.dst, g, b⟩ else none
  | _, _ => none

def cInss (P : Program) (wr : Bool) (ntmps : Nat) (ops : Array Oper) : List Oper → Option (List Ins)
  | [] => some []
  | o :: os => match cIns P wr ntmps ops o with
    | some i => match cInss P wr ntmps ops os with
      | some is => some (i :: is)
      | none => none
    | none => none

/-- An operation of a drawn region, with all that come ahead of it. -/
structure DI where
  ins : Ins
  dir : List Nat
  pre : List Nat

def Opnd.uses : Opnd → List Nat
  | .tmp t => [t]
  | .val _ => []

def Body.uses : Body → List Nat
  | .op _ xs => xs.flatMap Opnd.uses
  | .call _ xs => xs.flatMap Opnd.uses
  | .callv x xs => x.uses ++ xs.flatMap Opnd.uses

def Ins.uses (i : Ins) : List Nat := (match i.guard with
  | some (t, _) => [t]
  | none => []) ++ i.body.uses

def Ins.names (i : Ins) : List Nat := (match i.dst with
  | some d => [d]
  | none => []) ++ i.uses

def Ins.quiet (i : Ins) : Bool := match i.body with
  | .op k _ => !k.isEff
  | _ => false

def Ins.reads (i : Ins) : Bool := match i.body with
  | .op k _ => k.reads
  | _ => true

def dirOf (o : Oper) : List Nat := (o.after.toList.filter (Region.binds .any ·)).map (·.on)

def addNew (l : List Nat) : List Nat → List Nat
  | [] => l
  | x :: xs => addNew (if l.contains x then l else x :: l) xs

def presOf (acc : List (List Nat)) : List (List Nat) → List (List Nat)
  | [] => acc
  | d :: ds => presOf (acc ++ [addNew d (d.flatMap fun j => acc.getD j [])]) ds

def mkDIs : List Ins → List (List Nat) → List (List Nat) → List DI
  | i :: is, d :: ds, p :: ps => ⟨i, d, p⟩ :: mkDIs is ds ps
  | _, _, _ => []

/-- May the operation be done as soon as it can? -/
def isVal (ds : List DI) (j : Nat) : Bool := match ds[j]? with
  | some d => d.ins.quiet && (match d.ins.dst with
    | some t => !d.ins.uses.contains t && (List.range ds.length).all fun i => i == j || (match ds[i]? with
      | some e => !e.ins.names.contains t || e.pre.contains j
      | none => true)
    | none => false)
  | none => false

/-- Effects write no slot that is read without an order. -/
def effOk (ds : List DI) (j : Nat) : Bool := match ds[j]? with
  | some d => (match d.ins.dst with
    | some t => (List.range ds.length).all fun i => i == j || (match ds[i]? with
      | some e => !e.ins.names.contains t || e.pre.contains j || d.pre.contains i
      | none => true)
    | none => true)
  | none => true

def preOk (ds : List DI) (j : Nat) : Bool := match ds[j]? with
  | some d => (d.dir.all fun k => decide (k < j)) && d.pre.all fun i => d.dir.contains i || d.dir.any fun k => (match ds[k]? with
    | some e => e.pre.contains i
    | none => false)
  | none => true

def disOk (ds : List DI) : Bool := (List.range ds.length).all fun j => (isVal ds j || effOk ds j) && preOk ds j

def isReady (ds : List DI) (done : List Nat) (i : Nat) : Bool := !done.contains i && (match ds[i]? with
  | some d => d.pre.all fun j => done.contains j
  | none => false)

def altsOf (g : Nat → Option Plan) : List Nat → Option Plan
  | [] => none
  | [e] => g e
  | e :: es => match g e, altsOf g es with
    | some p, some q => some (.alt p q)
    | _, _ => none

def floatsOf (ds : List DI) (done pre : List Nat) : List Ins := (ds.zipIdx.filter fun (d, i) => done.contains i && isVal ds i && d.ins.reads && !pre.contains i).map (·.1.ins)

def mkPlan (ds : List DI) : Nat → List Nat → Option Plan
  | 0, _ => none
  | f + 1, done => match (List.range ds.length).find? (fun i => isReady ds done i && isVal ds i) with
    | some i => match ds[i]?, mkPlan ds f (i :: done) with
      | some d, some p => some (.val d.ins p)
      | _, _ => none
    | none => if (List.range ds.length).all (fun i => done.contains i) = true then some .fin else
      altsOf (fun e => match ds[e]?, mkPlan ds f (e :: done) with
        | some d, some p => some (.eff d.ins (floatsOf ds done d.pre) p)
        | _, _ => none) ((List.range ds.length).filter (isReady ds done))

def cDraw (is : List Ins) (ops : Array Oper) : Option Plan :=
  let dirs := ops.toList.map dirOf
  let ds := mkDIs is dirs (presOf [] dirs)
  if ds.length = ops.size ∧ disOk ds = true then mkPlan ds (ops.size + 1) [] else none

/-- muts: the regions whose slice literals are written later on. -/
def cCode (P : Program) (muts : List Nat) (ntmps : Nat) : Code → Option Cd
  | .skip => some .skip
  | .region id ops false => match cInss P (muts.contains id) ntmps ops ops.toList with
    | some is => some (.rgn is)
    | none => none
  | .region id ops true => match cInss P (muts.contains id) ntmps ops ops.toList with
    | some is => match cDraw is ops with
      | some p => if P.follows .mixedOrders = true then some (.rgnD p) else none
      | none => none
    | none => none
  | .seq a b => match cCode P muts ntmps a, cCode P muts ntmps b with
    | some x, some y => some (.seq x y)
    | _, _ => none
  | .cond c a b => match cOpnd c, cCode P muts ntmps a, cCode P muts ntmps b with
    | some z, some x, some y => some (.cond z x y)
    | _, _, _ => none
  | .block id c => match cCode P muts ntmps c with
    | some x => some (.block id x)
    | none => none
  | .loop c => match cCode P muts ntmps c with
    | some x => some (.loop x)
    | none => none
  | .exit id => some (.exit id)
  | .ret => some .ret
  | _ => none

def cRes (P : Program) : List ResultVar → Option (List Res)
  | [] => some []
  | .tmp t :: r => match cRes P r with
    | some l => some (.tmp t :: l)
    | none => none
  | .cell a t :: r => match isAggD (P.underlying t), sizeT P t, cRes P r with
    | some true, some n, some l => some (.cell a n false :: l)
    | some false, some 1, some l => some (.cell a 1 true :: l)
    | _, _, _ => none

def cFunc (P : Program) (muts : List Nat) (fn : Func) : Option AF :=
  match fn.body with
  | some c => match cCode P muts fn.ntmps c, cRes P fn.results.toList with
    | some b, some r => some ⟨fn.params.size, fn.ntmps, r, b⟩
    | _, _ => none
  | none => none

end Go.Abs
