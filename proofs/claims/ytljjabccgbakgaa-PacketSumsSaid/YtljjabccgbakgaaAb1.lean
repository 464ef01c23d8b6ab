/- The instructions of the abstract machine and what each one does. By the session itself. -/
import Derived.Test.YtljjabccgbakgaaAb0
namespace Go.Abs
open Go
set_option linter.unusedSimpArgs false
set_option linter.unusedVariables false

/-- Instructions; types are resolved to sizes. -/
inductive K where
  | id | strId | pick
  | bin (op : BinOp) | binB (op : BinOp) | aggEq (neg : Bool) | un (op : UnOp) | conv (k : IntKind) | toStr | len | lenS | lenC (n : Nat) | min2 | max2
  | field (off n : Nat) (one : Bool)
  | build (zero : List T) (ps : List (Nat × Nat))
  | load1 | loadN (n : Nat)
  | fieldA (off : Nat)
  | idxS (sz : Nat) | idxA (len sz : Nat) | idxStr
  | slice (sz : Nat) (lo hi : Bool) | sliceStr (lo hi : Bool) | sliceA (n : Nat) (lo hi : Bool)
  | extract (i : Nat)
  | mkfn (f : FuncId)
  | nilck
  | lookup (one : Bool) (zero : T)
  | alloc (zero : List T) | box | store (n : Nat)
  | buildSlice (sz : Nat) (zero : T) (len : Nat) (ps : List Nat)
  | buildRow (sz : Nat) (zero : T) (len : Nat) (ps : List Nat)
  | makeSlice (sz bytes : Nat) (zero : T)
  | append (sz bytes : Nat) | appendStr (bytes : Nat)
  | copy (sz : Nat)
  | mark
  | mapNew | mapSet | mapLen

def V.cells : V → List V
  | .t x => x.cells.map .t
  | .agg cs => cs
  | v => [v]

/-- A value whose machine value has the cells that it has. -/
def V.solid : V → Bool
  | .undef => false
  | .tup _ => false
  | _ => true

/-- A value of one cell. -/
def V.one : V → Bool
  | .undef => false
  | .tup _ => false
  | .agg _ => false
  | .t (.agg _) => false
  | _ => true

def T.at (xs : List T) (i : Nat) : T := xs.getD i .nilp

/-- The pure value of a value; a row that is handed in is frozen. -/
def toT (H : Heap) : V → Option (T × Heap)
  | .t x => some (x, H)
  | .sl id off len gen sz =>
    match rowOf H[id]? with
    | some (sz', g, xs) => if gen = g ∧ sz' = sz then some (.lst sz false ((xs.drop off).take len), H.set id (.frz sz g xs)) else none
    | none => none
  | _ => none

def toTs : Heap → List V → Option (List T × Heap)
  | H, [] => some ([], H)
  | H, v :: vs => match toT H v with
    | some (x, H1) => match toTs H1 vs with
      | some (xs, H2) => some (x :: xs, H2)
      | none => none
    | none => none

/-- An element of a row: a value of one cell, or a struct of such values. -/
def toElem (H : Heap) : V → Option (T × Heap)
  | .agg cs => match toTs H cs with
    | some (xs, H1) => some (.agg xs, H1)
    | none => none
  | v => toT H v

def toElems : Heap → List V → Option (List T × Heap)
  | H, [] => some ([], H)
  | H, v :: vs => match toElem H v with
    | some (x, H1) => match toElems H1 vs with
      | some (xs, H2) => some (x :: xs, H2)
      | none => none
    | none => none

def onlyT : List V → Option (List T)
  | [] => some []
  | .t x :: r => match onlyT r with
    | some xs => some (x :: xs)
    | none => none
  | _ :: _ => none

/-- The elements of a slice that is only read; m: so many cells has an element. -/
def elems (H : Heap) (m : Nat) : V → Option (List T)
  | .t (.lst sz _ xs) => if sz = m ∨ xs = [] then some xs else none
  | .sl id off len gen sz =>
    match rowOf H[id]? with
    | some (sz', g, xs) => if gen = g ∧ sz' = m then some ((xs.drop off).take len) else none
    | none => none
  | .bsl id off len =>
    match H[id]? with
    | some (.box cs) => if m = 1 then match onlyT ((cs.drop off).take len) with
      | some xs => if xs.all T.one = true then some xs else none
      | none => none
      else none
    | _ => none
  | _ => none

def bits (op : BinOp) (k : IntKind) (x y : Int) : Int :=
  let a := BitVec.ofInt k.bits x
  let b := BitVec.ofInt k.bits y
  match op with
  | .and => k.wrap (a &&& b).toNat
  | .or => k.wrap (a ||| b).toNat
  | .xor => k.wrap (a ^^^ b).toNat
  | .andNot => k.wrap (a &&& ~~~b).toNat
  | _ => 0

def binInt (op : BinOp) (k : IntKind) (a b : Int) : Option (Prop × V) :=
  match op with
  | .add => some (True, .int k (k.wrap (a + b)))
  | .sub => some (True, .int k (k.wrap (a - b)))
  | .mul => some (True, .int k (k.wrap (a * b)))
  | .quo => some (b ≠ 0, .int k (k.wrap (a.tdiv b)))
  | .rem => some (b ≠ 0, .int k (a.tmod b))
  | .and => some (True, .int k (bits .and k a b))
  | .or => some (True, .int k (bits .or k a b))
  | .xor => some (True, .int k (bits .xor k a b))
  | .andNot => some (True, .int k (bits .andNot k a b))
  | .eql => some (True, .bool (decide (a = b)))
  | .neq => some (True, .bool (!decide (a = b)))
  | .lss => some (True, .bool (decide (a < b)))
  | .leq => some (True, .bool (decide (a ≤ b)))
  | .gtr => some (True, .bool (decide (b < a)))
  | .geq => some (True, .bool (decide (b ≤ a)))
  | _ => none

def binShift (op : BinOp) (k : IntKind) (a b : Int) : Option (Prop × V) :=
  match op with
  | .shl => some (0 ≤ b, .int k (k.wrap (a * 2 ^ (min b.toNat k.bits))))
  | .shr => some (0 ≤ b, .int k (a.fdiv (2 ^ (min b.toNat k.bits))))
  | _ => none

def isShift : BinOp → Bool
  | .shl => true
  | .shr => true
  | _ => false

def binStr (op : BinOp) (a b : ByteArray) : Option (Prop × V) :=
  match op with
  | .add => some ((a.size + b.size : Int) ≤ 9223372036854775807, .str (a ++ b))
  | .eql => some (True, .bool (decide (a = b)))
  | .neq => some (True, .bool (!decide (a = b)))
  | _ => none

def kbin (op : BinOp) : V → V → Option (Prop × V)
  | .t (.int k a), .t (.int k' b) => if isShift op then binShift op k a b else if k = k' then binInt op k a b else none
  | .t (.str a), .t (.str b) => binStr op a b
  | _, _ => none

def kbinB (op : BinOp) : V → V → Option (Prop × V)
  | .t (.bool a), .t (.bool b) => match op with
    | .eql => some (True, .bool (a == b))
    | .neq => some (True, .bool (!(a == b)))
    | _ => none
  | _, _ => none

def kun (op : UnOp) : V → Option (Prop × V)
  | .t (.int k a) => match op with
    | .neg => some (True, .int k (k.wrap (0 - a)))
    | .xor => some (True, .int k (bits .xor k (if k.signed then -1 else k.max) a))
    | _ => none
  | .t (.bool b) => match op with
    | .not => some (True, .bool (!b))
    | _ => none
  | _ => none

def klen : V → Option (Prop × V)
  | .t (.lst _ _ xs) => some (True, .int .i64 xs.length)
  | .sl _ _ len _ _ => some (True, .int .i64 len)
  | .bsl _ _ len => some (True, .int .i64 len)
  | _ => none

def klenS : V → Option (Prop × V)
  | .t (.str s) => some (True, .int .i64 s.size)
  | _ => none

/-- The cells of a struct or an array. -/
def aggCells : V → Option (List V)
  | .agg cs => some cs
  | .t (.agg cs) => some (cs.map .t)
  | _ => none

def kfield1 (off : Nat) (x : V) : Option (Prop × V) :=
  match aggCells x with
  | some cs => some (off < cs.length, cs.getD off .undef)
  | none => none

def kfieldN (off n : Nat) (x : V) : Option (Prop × V) :=
  match aggCells x with
  | some cs => some (off + n ≤ cs.length, .agg ((cs.drop off).take n))
  | none => none

def kmin2 : V → V → Option (Prop × V)
  | .t (.int k a), .t (.int _ b) => some (True, .int k (if b < a then b else a))
  | _, _ => none

def kmax2 : V → V → Option (Prop × V)
  | .t (.int k a), .t (.int _ b) => some (True, .int k (if a < b then b else a))
  | _, _ => none

/-- Cells with a part of them replaced. -/
def putAt {α : Type} (cs : List α) (off : Nat) (ds : List α) : List α := cs.take off ++ (ds ++ cs.drop (off + ds.length))

def fillV : List V → List (Nat × Nat) → List V → Option (List V)
  | cs, [], [] => some cs
  | cs, (off, n) :: ps, v :: vs => if v.solid ∧ v.cells.length = n ∧ off + n ≤ cs.length then fillV (putAt cs off v.cells) ps vs else none
  | _, _, _ => none

def kload1 (H : Heap) : V → Option (Prop × V)
  | .ref id off => match H[id]? with
    | some (.box cs) => some (off < cs.length, cs.getD off .undef)
    | _ => none
  | .elt id i off gen => match rowOf H[id]? with
    | some (_, g, xs) => if gen = g then some (off < (T.at xs i).cells.length, .t (T.at (T.at xs i).cells off)) else none
    | none => none
  | .ip cs => some (0 < cs.length, .t (T.at cs 0))
  | _ => none

def kloadN (n : Nat) (H : Heap) : V → Option (Prop × V)
  | .ref id off => match H[id]? with
    | some (.box cs) => some (off + n ≤ cs.length, .agg ((cs.drop off).take n))
    | _ => none
  | .elt id i off gen => match rowOf H[id]? with
    | some (_, g, xs) => if gen = g then some (off + n ≤ (T.at xs i).cells.length, .agg ((((T.at xs i).cells.drop off).take n).map .t)) else none
    | none => none
  | .ip cs => some (n ≤ cs.length, .agg ((cs.take n).map .t))
  | _ => none

def kfieldA (off : Nat) : V → Option (Prop × V)
  | .ref id o => some (True, .ref id (o + off))
  | .elt id i o g => some (True, .elt id i (o + off) g)
  | .ip cs => some (True, .ip (cs.drop off))
  | _ => none

def kidxS (n : Nat) (H : Heap) : V → V → Option (Prop × V)
  | .t (.lst sz _ xs), .t (.int _ i) => some (sz = n ∧ 0 ≤ i ∧ i < xs.length, .ip (T.at xs i.toNat).cells)
  | .sl id off len gen sz, .t (.int _ i) => match rowOf H[id]? with
    | some (sz', g, _) => if gen = g ∧ sz' = sz ∧ sz = n then some (0 ≤ i ∧ i < len, .elt id (off + i.toNat) 0 gen) else none
    | none => none
  | .bsl id off len, .t (.int _ i) => some (n = 1 ∧ 0 ≤ i ∧ i < len, .ref id (off + i.toNat))
  | _, _ => none

def kidxA (len sz : Nat) : V → V → Option (Prop × V)
  | .ref id o, .t (.int _ i) => some (0 ≤ i ∧ i < len, .ref id (o + i.toNat * sz))
  | .elt id j o g, .t (.int _ i) => some (0 ≤ i ∧ i < len, .elt id j (o + i.toNat * sz) g)
  | .ip cs, .t (.int _ i) => some (0 ≤ i ∧ i < len, .ip (cs.drop (i.toNat * sz)))
  | _, _ => none

def bt (s : ByteArray) (i : Nat) : Int := (s.data.toList.getD i 0).toNat

def kidxStr : V → V → Option (Prop × V)
  | .t (.str s), .t (.int _ i) => some (0 ≤ i ∧ i < s.size, .int .u8 (bt s i.toNat))
  | _, _ => none

/-- The bounds of a slice expression: from low to high (cap is not known: high is at most the length). -/
def bounds (len : Nat) : Bool → Bool → List V → Option (Prop × Nat × Nat)
  | false, false, [] => some (True, 0, len)
  | true, false, [.t (.int _ l)] => some (0 ≤ l ∧ l ≤ len, l.toNat, len)
  | false, true, [.t (.int _ h)] => some (0 ≤ h ∧ h ≤ len, 0, h.toNat)
  | true, true, [.t (.int _ l), .t (.int _ h)] => some (0 ≤ l ∧ l ≤ h ∧ h ≤ len, l.toNat, h.toNat)
  | _, _, _ => none

def kslice (n : Nat) (lo hi : Bool) : V → List V → Option (Prop × V)
  | .t (.lst sz nl xs), r => match bounds xs.length lo hi r with
    | some (c, l, h) => some ((sz = n ∨ xs = []) ∧ c, .t (.lst sz (nl && !hi) ((xs.take h).drop l)))
    | none => none
  | .sl id off len gen sz, r => match bounds len lo hi r with
    | some (c, l, h) => some (sz = n ∧ c, .sl id (off + l) (h - l) gen sz)
    | none => none
  | _, _ => none

def ksliceStr (lo hi : Bool) : V → List V → Option (Prop × V)
  | .t (.str s), r => match bounds s.size lo hi r with
    | some (c, l, h) => some (c, .t (.str (s.extract l h)))
    | none => none
  | _, _ => none

def ksliceA (H : Heap) (n : Nat) (lo hi : Bool) : V → List V → Option (Prop × V)
  | .ref id o, r => match H[id]? with
    | some (.box cs) => match bounds n lo hi r with
      | some (c, l, h) => some (o + n ≤ cs.length ∧ c, .bsl id (o + l) (h - l))
      | none => none
    | _ => none
  | _, _ => none

def bytesOf : List T → List UInt8
  | [] => []
  | .int _ n :: r => UInt8.ofNat n.toNat :: bytesOf r
  | _ :: r => 0 :: bytesOf r

def isByte : T → Bool
  | .int .u8 _ => true
  | _ => false

def ktoStr (H : Heap) (v : V) : Option (Prop × V) :=
  match elems H 1 v with
  | some xs => some (xs.all isByte = true, .str ⟨(bytesOf xs).toArray⟩)
  | none => none

/-- Instructions that neither write nor make memory. -/
def kval (H : Heap) : K → List V → Option (Prop × V)
  | .id, [x] => some (True, x)
  | .strId, [.t (.str s)] => some (True, .t (.str s))
  | .pick, [.t (.bool c), a, b] => some (True, if c then a else b)
  | .bin op, [x, y] => kbin op x y
  | .binB op, [x, y] => kbinB op x y
  | .un op, [x] => kun op x
  | .conv k, [.t (.int _ n)] => some (True, .int k (k.wrap n))
  | .toStr, [x] => ktoStr H x
  | .len, [x] => klen x
  | .lenS, [x] => klenS x
  | .lenC n, [_] => some (True, .int .i64 n)
  | .min2, [x, y] => kmin2 x y
  | .max2, [x, y] => kmax2 x y
  | .field off _ true, [x] => kfield1 off x
  | .field off n false, [x] => kfieldN off n x
  | .build zero ps, xs => match fillV (zero.map .t) ps xs with
    | some cs => some (True, .agg cs)
    | none => none
  | .load1, [x] => kload1 H x
  | .loadN n, [x] => kloadN n H x
  | .fieldA off, [x] => kfieldA off x
  | .idxS n, [x, i] => kidxS n H x i
  | .idxA len sz, [x, i] => kidxA len sz x i
  | .idxStr, [x, i] => kidxStr x i
  | .slice n lo hi, x :: r => kslice n lo hi x r
  | .sliceStr lo hi, x :: r => ksliceStr lo hi x r
  | .sliceA n lo hi, x :: r => ksliceA H n lo hi x r
  | .extract i, [.tup vs] => some (i < vs.length, vs.getD i .undef)
  | .mkfn f, caps => some (True, .fn f caps)
  | .nilck, [.ref id o] => some (True, .ref id o)
  | .nilck, [.elt id i o g] => some (True, .elt id i o g)
  | .nilck, [.ip cs] => some (True, .ip cs)
  | .nilck, [.fn f cs] => some (True, .fn f cs)
  | _, _ => none

/-- An element with a part of it replaced. -/
def elemPut (e : T) (off : Nat) (x : T) : T :=
  match e with
  | .agg cs => .agg (putAt cs off x.cells)
  | _ => T.at x.cells 0

def kstore (H : Heap) (n : Nat) : V → V → Option (Prop × V × Heap)
  | .ref id off, v => match H[id]? with
    | some (.box cs) => some (v.solid = true ∧ v.cells.length = n ∧ off + n ≤ cs.length ∧ (v.cells.all V.one) = true, .undef, H.set id (.box (putAt cs off v.cells)))
    | _ => none
  | .elt id i off gen, v => match toElem H v with
    | some (x, H1) => match H1[id]? with
      | some (.row sz g xs) => if gen = g then some (i < xs.length ∧ x.cells.length = n ∧ off + n ≤ sz ∧ x.cells.all T.one = true, .undef, H1.set id (.row sz g (xs.set i (elemPut (T.at xs i) off x)))) else none
      | _ => none
    | none => none
  | _, _ => none

def kappend (H : Heap) (sz bytes : Nat) (s : V) (ys : List T) : Option (Prop × V × Heap) :=
  match s with
  | .t (.lst sz' true xs) => some ((xs = [] ∨ ys ≠ []) ∧ (xs = [] ∨ sz' = sz) ∧ (xs.length + ys.length) * bytes ≤ 2 ^ 47, .sl H.length 0 (xs.length + ys.length) 0 sz, H ++ [.row sz 0 (xs ++ ys)])
  | .sl id off len gen sz' => match H[id]? with
    | some (.row s2 g xs) => if gen = g ∧ off = 0 ∧ s2 = sz ∧ sz' = sz then some (len = xs.length ∧ (xs.length + ys.length) * bytes ≤ 2 ^ 47, .sl id 0 (len + ys.length) (g + 1) sz, H.set id (.row sz (g + 1) (xs ++ ys))) else none
    | _ => none
  | _ => none

def kcopy (H : Heap) (sz : Nat) (d : V) (ys : List T) : Option (Prop × V × Heap) :=
  match d with
  | .sl id off len gen sz' => match H[id]? with
    | some (.row s2 g xs) => if gen = g ∧ s2 = sz ∧ sz' = sz then some (True, .int .i64 ((min ys.length len : Nat) : Int), H.set id (.row sz g (putAt xs off (ys.take len)))) else none
    | _ => none
  | .bsl id off len => match H[id]? with
    | some (.box cs) => if sz = 1 ∧ ys.all T.one = true then some (off + len ≤ cs.length, .int .i64 ((min ys.length len : Nat) : Int), H.set id (.box (putAt cs off ((ys.take len).map .t)))) else none
    | _ => none
  | _ => none

def strElems (s : ByteArray) : List T := s.data.toList.map fun b => .int .u8 b.toNat

def setElems (zs : List T) : List Nat → List T → List T
  | i :: is, x :: xs => setElems (zs.set i x) is xs
  | _, _ => zs

/-- Instructions that write or make memory. -/
def keff (H : Heap) : K → List V → Option (Prop × V × Heap)
  | .alloc zero, [] => some (True, .ref H.length 0, H ++ [.box (zero.map .t)])
  | .box, [x] => some (x.solid = true ∧ x.cells.all V.one = true, .ref H.length 0, H ++ [.box x.cells])
  | .store n, [a, v] => kstore H n a v
  | .buildSlice sz zero len ps, xs => match toElems H xs with
    | some (es, H1) => some (es.length = ps.length ∧ (ps.all (· < len)) = true ∧ (es.all fun e => e.cells.length == sz && e.cells.all T.one) = true, .t (.lst sz true (setElems (List.replicate len zero) ps es)), H1)
    | none => none
  | .buildRow sz zero len ps, xs => match toElems H xs with
    | some (es, H1) => some (es.length = ps.length ∧ (ps.all (· < len)) = true ∧ (es.all fun e => e.cells.length == sz && e.cells.all T.one) = true, .sl H1.length 0 len 0 sz, H1 ++ [.row sz 0 (setElems (List.replicate len zero) ps es)])
    | none => none
  | .makeSlice sz bytes zero, [.t (.int _ n), .t (.int _ c)] => some (0 ≤ n ∧ n ≤ c ∧ c < 9223372036854775808 ∧ bytes * c ≤ 2 ^ 46, .sl H.length 0 n.toNat 0 sz, H ++ [.row sz 0 (List.replicate n.toNat zero)])
  | .append sz bytes, [s, x] => match elems H sz x with
    | some ys => kappend H sz bytes s ys
    | none => none
  | .appendStr bytes, [s, .t (.str x)] => kappend H 1 bytes s (strElems x)
  | .copy sz, [d, x] => match elems H sz x with
    | some ys => kcopy H sz d ys
    | none => none
  | .mark, [.sl id off len gen sz] => match H[id]? with
    | some (.row s2 g xs) => if gen = g ∧ s2 = sz then some (0 < len, .sl id off len gen sz, H) else none
    | _ => none
  | _, _ => none

def K.isEff : K → Bool
  | .alloc _ => true
  | .box => true
  | .store _ => true
  | .buildSlice .. => true
  | .buildRow .. => true
  | .makeSlice .. => true
  | .append .. => true
  | .appendStr _ => true
  | .copy _ => true
  | .mark => true
  | .mapNew => true
  | .mapSet => true
  | _ => false

/-- Does what the instruction yields depend on the heap? -/
def K.reads : K → Bool
  | .toStr => true
  | .load1 => true
  | .loadN _ => true
  | .idxS _ => true
  | .sliceA .. => true
  | .lookup .. => true
  | .mapLen => true
  | _ => false

end Go.Abs
