/- The abstract layer, part C: the abstract operations and the abstract transformer of predicates, as plain definitions. -/
import Derived.Test.YtmbegappkkbfpaaAbsB
namespace Go.Abs
open Go Go.RowKit

def constAtom : Value → AV
  | .bool b => .bool b
  | .int k n => .int k n
  | .string s => .str s.data.toList
  | .pointer none => .nilp
  | .slice none 0 0 => .snil
  | .nilFunc => .nilfn
  | _ => .unk
def constAV : Value → AV
  | .agg cs => .agg (cs.toList.map constAtom)
  | v => constAtom v
def constCells : Value → List AV
  | .agg cs => cs.toList.map constAtom
  | v => [constAtom v]

/-- The value of an operand in an abstract frame. -/
def ev (F : List AV) : Operand → AV
  | .tmp t => F.getD t .unk
  | .const v => constAV v
  | .global _ => .unk
  | .func f => .fn f []

/-- The cells of a value that can be stored. -/
def AV.cs? : AV → Option (List AV)
  | .tup _ => none
  | .unk => none
  | .agg cs => some cs
  | a => some [a]
/-- An atom of data. -/
def AV.pd : AV → Option AV
  | .bool b => some (.bool b)
  | .int k n => some (.int k n)
  | .str s => some (.str s)
  | .snil => some (.sl [] .none)
  | .sl es _ => some (.sl es .none)
  | _ => none
def plain : List AV → Option (List AV)
  | [] => some []
  | a :: as => match a.pd, plain as with
    | some d, some ds => some (d :: ds)
    | _, _ => none
def plains : List (List AV) → Option (List (List AV))
  | [] => some []
  | a :: as => match plain a, plains as with
    | some d, some ds => some (d :: ds)
    | _, _ => none
def AV.known : AV → Bool
  | .unk => false
  | _ => true
def AV.isB : AV → Bool
  | .fn _ _ | .agg _ | .tup _ => false
  | _ => true

def aIf (b : Bool) (p q : Prop) : Prop := if b = true then p else q
def aPick (c a b : AV) (K : AV → Prop) : Prop :=
  match c with
  | .bool t => K (if t = true then a else b)
  | _ => False
def aNew (cs : List AV) (H : Heap) (K : AV → Heap → Prop) : Prop := K (.ptr H.length 0) (H ++ [.cells cs])
def aBox (x : AV) (H : Heap) (K : AV → Heap → Prop) : Prop :=
  match x.cs? with
  | some cs => K (.ptr H.length 0) (H ++ [.cells cs])
  | none => False
def aCells (agg : Bool) (n off : Nat) (cs : List AV) (K : AV → Prop) : Prop :=
  match agg with
  | true => off + n ≤ cs.length ∧ K (.agg ((cs.drop off).take n))
  | false => match cs[off]? with
    | some c => K c
    | none => False
def aLoad (agg : Bool) (n : Nat) (a : AV) (H : Heap) (K : AV → Prop) : Prop :=
  match a with
  | .ptr id off => match H[id]? with
    | some (.cells cs) => aCells agg n off cs K
    | _ => False
  | .view cs => aCells agg n 0 cs K
  | _ => False
def aStore (n : Nat) (a x : AV) (H : Heap) (K : Heap → Prop) : Prop :=
  match a, x.cs? with
  | .ptr id off, some xs => match H[id]? with
    | some (.cells cs) => (xs.length = n ∧ off + n ≤ cs.length ∧ xs.all AV.known = true) ∧ K (H.set id (.cells (cs.take off ++ xs ++ cs.drop (off + n))))
    | _ => False
  | _, _ => False
def aFld (off : Nat) (a : AV) (K : AV → Prop) : Prop :=
  match a with
  | .ptr id o => K (.ptr id (o + off))
  | .view cs => off ≤ cs.length ∧ K (.view (cs.drop off))
  | _ => False
def aFldV (agg : Bool) (n off : Nat) (a : AV) (K : AV → Prop) : Prop :=
  match a with
  | .agg cs => aCells agg n off cs K
  | _ => False
/-- The address of an element of a slice whose elements have esz cells. -/
def aIdxA (esz : Nat) (x i : AV) (K : AV → Prop) : Prop :=
  match x, i with
  | .sl es _, .int _ n => (0 ≤ n ∧ n < es.length) ∧ ((es.getD n.toNat []).length = esz ∧ K (.view (es.getD n.toNat [])))
  | .ms id off len _, .int _ n => (0 ≤ n ∧ n < len) ∧ K (.ptr id (off + n.toNat * esz))
  | _, _ => False
def aIdxS (x i : AV) (K : AV → Prop) : Prop :=
  match x, i with
  | .str s, .int _ n => (0 ≤ n ∧ n < s.length) ∧ K (.int .u8 (s.getD n.toNat 0).toNat)
  | _, _ => False
def aLen (u : Nat) (x : AV) (K : AV → Prop) : Prop :=
  match u, x with
  | 0, .str s => K (.int .i64 s.length)
  | 1, .sl es _ => K (.int .i64 es.length)
  | 1, .snil => K (.int .i64 0)
  | 1, .ms _ _ len _ => K (.int .i64 len)
  | _, _ => False
/-- A bound of a slice expression: 'd' where none is written. -/
def aBound (x : Option AV) (d : Nat) (K : Nat → Prop) : Prop :=
  match x with
  | none => K d
  | some (.int _ n) => 0 ≤ n ∧ K n.toNat
  | _ => False
def aSlice (u esz : Nat) (x : AV) (lo hi : Option AV) (K : AV → Prop) : Prop :=
  match u, x with
  | 0, .str s => aBound hi s.length fun h => aBound lo 0 fun l => (l ≤ h ∧ h ≤ s.length) ∧ K (.str ((s.take h).drop l))
  | 1, .sl es _ => aBound hi es.length fun h => aBound lo 0 fun l => (l ≤ h ∧ h ≤ es.length ∧ ∀ c ∈ es, c.length = esz) ∧ K (.sl ((es.take h).drop l) .none)
  | 1, .snil => aBound hi 0 fun h => aBound lo 0 fun l => (l ≤ h ∧ h ≤ 0) ∧ K .snil
  | 1, .ms id off len cap => aBound hi len fun h => aBound lo 0 fun l => (l ≤ h ∧ h ≤ cap) ∧ K (.ms id (if cap = l then off else off + l * esz) (h - l) (cap - l))
  | _, _ => False
def aBin (op : BinOp) (b : Bool) (x y : AV) (K : AV → Prop) : Prop :=
  match x, y with
  | .int k m, .int k' n => k = k' ∧ (match op with
    | .add => K (.int k (k.wrap (m + n)))
    | .sub => K (.int k (k.wrap (m - n)))
    | .mul => K (.int k (k.wrap (m * n)))
    | .quo => n ≠ 0 ∧ K (.int k (k.wrap (m.tdiv n)))
    | .rem => n ≠ 0 ∧ K (.int k (m.tmod n))
    | .eql => K (.bool (m == n))
    | .neq => K (.bool (m != n))
    | .lss => K (.bool (decide (m < n)))
    | .leq => K (.bool (decide (m ≤ n)))
    | .gtr => K (.bool (decide (m > n)))
    | .geq => K (.bool (decide (m ≥ n)))
    | _ => False)
  | .str s, .str t => (match op with
    | .add => s.length + t.length ≤ 9223372036854775807 ∧ K (.str (s ++ t))
    | .eql => K (.bool (s == t))
    | .neq => K (.bool (!(s == t)))
    | .lss => K (.bool (Op.bytesLess s t))
    | .leq => K (.bool (Op.bytesLess s t || s == t))
    | .gtr => K (.bool (!(Op.bytesLess s t || s == t)))
    | .geq => K (.bool (!Op.bytesLess s t))
    | _ => False)
  | .bool m, .bool n => b = true ∧ (match op with
    | .eql => K (.bool (m == n))
    | .neq => K (.bool (!(m == n)))
    | _ => False)
  | _, _ => False
def aUn (op : UnOp) (x : AV) (K : AV → Prop) : Prop :=
  match op, x with
  | .not, .bool b => K (.bool (!b))
  | .neg, .int k n => K (.int k (k.wrap (0 - n)))
  | _, _ => False
def aConv (k : IntKind) (x : AV) (K : AV → Prop) : Prop :=
  match x with
  | .int _ n => K (.int k (k.wrap n))
  | _ => False
def aConvS (x : AV) (K : AV → Prop) : Prop :=
  match x with
  | .str s => K (.str s)
  | _ => False
def aExt (x : AV) (i : Nat) (K : AV → Prop) : Prop :=
  match x with
  | .tup vs => (match vs[i]? with
    | some v => K v
    | none => False)
  | _ => False
def aClos (f : Nat) (caps : List AV) (K : AV → Prop) : Prop := caps.all AV.isB = true ∧ K (.fn f caps)
def aNil (x : AV) (K : AV → Prop) : Prop :=
  match x with
  | .ptr _ _ | .view _ | .fn _ _ => K x
  | _ => False
/-- A struct value: the parts are laid over the zero value. -/
def fillA (places : List (Nat × Nat)) : List (Nat × AV) → List AV → Option (List AV)
  | [], cs => some cs
  | (i, x) :: rest, cs => match places[i]?, x.cs? with
    | some (off, size), some xs => match xs.length == size && decide (off + size ≤ cs.length) with
      | true => fillA places rest (cs.take off ++ xs ++ cs.drop (off + size))
      | false => none
    | _, _ => none
def aBuild (zero : List AV) (places : List (Nat × Nat)) (parts : List (Nat × AV)) (K : AV → Prop) : Prop :=
  match fillA places parts zero with
  | some cs => K (.agg cs)
  | none => False
/-- A slice's literal: immutable. -/
def fillS (esz : Nat) : List (Nat × AV) → List (List AV) → Option (List (List AV))
  | [], es => some es
  | (i, x) :: rest, es => match x.cs? with
    | some xs => match plain xs with
      | some ds => match ds.length == esz && decide (i < es.length) with
        | true => fillS esz rest (es.set i ds)
        | false => none
      | none => none
    | none => none
def aBuildS (esz : Nat) (zero : List AV) (len : Nat) (parts : List (Nat × AV)) (K : AV → Prop) : Prop :=
  match plain zero with
  | some z => (match fillS esz parts (List.replicate len z) with
    | some es => K (.sl es .full)
    | none => False)
  | none => False
def aMake (bytes : Nat) (zero : List AV) (len cap : AV) (H : Heap) (K : AV → Heap → Prop) : Prop :=
  match len, cap with
  | .int .i64 l, .int .i64 c => (0 ≤ l ∧ l ≤ c ∧ c * bytes ≤ 140737488355328 ∧ c ≤ 9223372036854775807) ∧
      K (.ms H.length 0 l.toNat c.toNat) (H ++ [.cells (List.replicate c.toNat zero).flatten])
  | _, _ => False
/-- Append: the elements that are appended, as data. -/
def aSrc (y : AV) (K : List (List AV) → Prop) : Prop :=
  match y with
  | .sl ys _ => K ys
  | .snil => K []
  | _ => False
def aAppTo (e size bytes : Nat) (x : AV) (ys : List (List AV)) (H : Heap) (K : AV → Heap → Prop) : Prop :=
  match x with
  | .snil => (ys.length * bytes ≤ 140737488355328 ∧ ys.length ≤ 9223372036854775807) ∧ K (.sl ys (.own H.length)) (H ++ [.perm e size ys.length])
  | .sl es (.own id) => H[id]? = some (.perm e size es.length) ∧ ((es.length + ys.length) * bytes ≤ 140737488355328 ∧ es.length + ys.length ≤ 9223372036854775807) ∧
      K (.sl (es ++ ys) (.own id)) (H.set id (.perm e size (es.length + ys.length)))
  | _ => False
def aAppend (e size bytes : Nat) (x y : AV) (H : Heap) (K : AV → Heap → Prop) : Prop :=
  aSrc y fun ys => (∀ c ∈ ys, c.length = size) ∧ aAppTo e size bytes x ys H K

/-- The abstract contract of a call. -/
def ACalls (P : Program) (f : FuncId) (args : List AV) (H : Heap) (K : AV → Heap → Prop) : Prop :=
  ∀ (B : Nat) (w : World) (G : Gh) (vs : Array Value), HRel B w G H → All2 (TRel w G) vs.toList args →
    Calls P f vs w fun e w' => ∃ v r H' G', e = .returned v ∧ Ext B w G w' G' ∧ HRel B w' G' H' ∧ TRel w' G' v r ∧ K r H'

/-! ### What the program's tables say -/
def tSize (P : Program) (t : TypeId) : Option Nat := (P.info? t).map (·.size)
def tBytes (P : Program) (t : TypeId) : Option Nat := (P.info? t).map (·.bytes)
def tZero (P : Program) (t : TypeId) : Option Value := (P.info? t).bind (·.zero)
def tAgg (P : Program) (t : TypeId) : Option Bool := (P.underlying t).map fun | .struct _ | .array _ _ => true | _ => false
def tKind (P : Program) (t : TypeId) : Option Nat := (P.underlying t).bind fun | .string => some 0 | .slice _ => some 1 | _ => none
def tElem (P : Program) (t : TypeId) : Option TypeId := (P.underlying t).bind fun | .slice e => some e | _ => none
def tBool (P : Program) (t : TypeId) : Bool := match P.underlying t with | some .bool => true | _ => false
def tField (P : Program) (t : TypeId) (i : Nat) : Option Field := (P.underlying t).bind fun | .struct fs => fs[i]? | _ => none
def tPlaces (P : Program) (t : TypeId) : Option (List (Nat × Nat)) := (P.underlying t).bind fun
  | .struct fs => fs.toList.mapM fun f => (tSize P f.type).map fun s => (f.offset, s)
  | _ => none
def callable (P : Program) (f : FuncId) : Bool :=
  match P.funcs[f]? with
  | some fn => !(fn.name == "runtime.NumGoroutine") && fn.body.isSome
  | none => false

def aCallV (P : Program) (g : AV) (args : List AV) (H : Heap) (K : AV → Heap → Prop) : Prop :=
  match g with
  | .fn f caps => (match callable P f with
    | true => ACalls P f (args ++ caps) H K
    | false => False)
  | _ => False

def aBuiltin (P : Program) (b : Builtin) (c : Call) (F : List AV) (H : Heap) (K : AV → Heap → Prop) : Prop :=
  match b with
  | .len => (match c.args.toList, c.argTypes.toList with
    | [x], [t] => (match tKind P t with
      | some u => aLen u (ev F x) (K · H)
      | none => False)
    | _, _ => False)
  | .append => (match c.args.toList, c.argTypes.toList with
    | [x, y], [t, t'] => (match tElem P t, (tElem P t).bind (tSize P), (tElem P t).bind (tBytes P), (tElem P t).bind (tZero P), t == t' with
      | some e, some size, some bytes, some z, true => (match decide (0 < size) && (constCells z).length == size with
        | true => aAppend e size bytes (ev F x) (ev F y) H K
        | false => False)
      | _, _, _, _, _ => False)
    | _, _ => False)
  | _ => False

def aop (P : Program) (o : Oper) (F : List AV) (H : Heap) (K : AV → Heap → Prop) : Prop :=
  match o.op with
  | .move x | .assign x => K (ev F x) H
  | .pick c a b => aPick (ev F c) (ev F a) (ev F b) (K · H)
  | .alloc t => (match tZero P t with
    | some z => aNew (constCells z) H K
    | none => False)
  | .box _ x => aBox (ev F x) H K
  | .build t parts => (match tZero P t, tPlaces P t with
    | some z, some ps => aBuild (constCells z) ps (parts.toList.map fun p => (p.1, ev F p.2)) (K · H)
    | _, _ => False)
  | .buildSlice t len parts => (match (tElem P t).bind (tSize P), (tElem P t).bind (tZero P) with
    | some size, some z => (match decide (0 < size) && decide (len * size ≤ 16777216) && (constCells z).length == size with
      | true => aBuildS size (constCells z) len (parts.toList.map fun p => (p.1, ev F p.2)) (K · H)
      | false => False)
    | _, _ => False)
  | .load t a => (match tAgg P t, tSize P t with
    | some g, some n => aLoad g n (ev F a) H (K · H)
    | _, _ => False)
  | .store t a x => (match tSize P t with
    | some n => aStore n (ev F a) (ev F x) H (K (.tup []))
    | none => False)
  | .nilCheck x => aNil (ev F x) (K · H)
  | .binOp op t x y _ => aBin op (tBool P t) (ev F x) (ev F y) (K · H)
  | .unOp op _ x => aUn op (ev F x) (K · H)
  | .convert s t x => (match P.underlying s, P.underlying t with
    | some (.int _), some (.int k) => aConv k (ev F x) (K · H)
    | some .string, some .string => aConvS (ev F x) (K · H)
    | _, _ => False)
  | .makeFunc (.func f) first caps => (match first.toList with
    | [] => aClos f (caps.toList.map (ev F)) (K · H)
    | _ => False)
  | .makeSlice t l c => (match (tElem P t).bind (tSize P), (tElem P t).bind (tBytes P), (tElem P t).bind (tZero P) with
    | some size, some bytes, some z => (match decide (0 < size) && (constCells z).length == size with
      | true => aMake bytes (constCells z) (ev F l) (ev F c) H K
      | false => False)
    | _, _, _ => False)
  | .slice t x lo hi none => (match tKind P t with
    | some 0 => aSlice 0 0 (ev F x) (lo.map (ev F)) (hi.map (ev F)) (K · H)
    | some 1 => (match (tElem P t).bind (tSize P) with
      | some size => aSlice 1 size (ev F x) (lo.map (ev F)) (hi.map (ev F)) (K · H)
      | none => False)
    | _ => False)
  | .fieldAddr s x i => (match tField P s i with
    | some f => (match tSize P f.type with
      | some (_ + 1) => aFld f.offset (ev F x) (K · H)
      | _ => False)
    | none => False)
  | .field s x i => (match tField P s i with
    | some f => (match tAgg P f.type, tSize P f.type with
      | some g, some n => aFldV g n f.offset (ev F x) (K · H)
      | _, _ => False)
    | none => False)
  | .indexAddr t x i => (match (tElem P t).bind (tSize P) with
    | some size => aIdxA size (ev F x) (ev F i) (K · H)
    | none => False)
  | .index t x i => (match tKind P t with
    | some 0 => aIdxS (ev F x) (ev F i) (K · H)
    | _ => False)
  | .extract x i => aExt (ev F x) i (K · H)
  | .call c => (match c.callee with
    | .value f => aCallV P (ev F f) (c.args.toList.map (ev F)) H K
    | .builtin b => aBuiltin P b c F H K
    | .invoke _ _ => False)
  | _ => False

/-- A guarded operation. -/
def aGuard (g : AV) (want : Bool) (p q : Prop) : Prop :=
  match g with
  | .bool b => aIf (b == want) p q
  | .tup [] => q
  | _ => False
def aGuardJ (g : AV) (want : Bool) (H : Heap) (p : (AV → Heap → Prop) → Prop) (J : AV → Heap → Prop) : Prop := aGuard g want (p J) (J (.tup []) H)
/-- An operation of a region that draws its order. -/
def aPure (H : Heap) (p : (AV → Heap → Prop) → Prop) (K : AV → Prop) : Prop := ∃ r, (p fun v H' => v = r ∧ H' = H) ∧ K r
/-- A test. -/
def aTest (c : AV) (p q : Prop) : Prop :=
  match c with
  | .bool t => aIf t p q
  | _ => False

def putF (F : List AV) (d : Option Tmp) (v : AV) : List AV :=
  match d with
  | some d => F.set d v
  | none => F

def runOps (P : Program) (ops : Array Oper) : List Oper → (List AV → Heap → Prop) → List AV → Heap → Prop
  | [], K, F, H => K F H
  | o :: os, K, F, H => match o.guard with
    | none => aop P o F H fun v H' => runOps P ops os K (putF F o.dst v) H'
    | some (j, want) => (match (ops[j]?).bind (·.dst) with
      | some d => aGuardJ (F.getD d .unk) want H (aop P o F H) fun v H' => runOps P ops os K (putF F o.dst v) H'
      | none => False)

/-- A region that draws its order: every operation leaves the heap as it is. -/
def runD (P : Program) (ops : Array Oper) : List Oper → (List AV → Heap → Prop) → List AV → Heap → Prop
  | [], K, F, H => K F H
  | o :: os, K, F, H => match o.guard with
    | none => aPure H (aop P o F H) fun r => runD P ops os K (putF F o.dst r) H
    | some (j, want) => (match (ops[j]?).bind (·.dst) with
      | some d => aGuardJ (F.getD d .unk) want H (fun J => aPure H (aop P o F H) (J · H)) fun v H' => runD P ops os K (putF F o.dst v) H'
      | none => False)

inductive AExit where
  | normal
  | exit (id : Nat)
  | ret
def AExit.toExit : AExit → Exit
  | .normal => .normal
  | .exit id => .exit id
  | .ret => .ret

def Post (B : Nat) (w : World) (G : Gh) (Q : AExit → List AV → Heap → Prop) (e : Exit) (a' : Act) (w' : World) : Prop :=
  ∃ F' H' G' e', e = AExit.toExit e' ∧ Ext B w G w' G' ∧ HRel B w' G' H' ∧ FRel w' G' a'.tmps F' ∧ a'.defers = [] ∧ Q e' F' H'

/-- What an abstract predicate says of the model's run. -/
def AWp (P : Program) (c : Code) (Q : AExit → List AV → Heap → Prop) (F : List AV) (H : Heap) : Prop :=
  ∀ (B : Nat) (w : World) (G : Gh) (a : Act), HRel B w G H → FRel w G a.tmps F → a.defers = [] → c.wp P (Post B w G Q) a w

/-- A loop: known by its rule alone. -/
def ALoop (P : Program) (c : Code) (Q : AExit → List AV → Heap → Prop) (F : List AV) (H : Heap) : Prop := AWp P (.loop c) Q F H

def mask : List Bool → List AV → List AV
  | true :: bs, a :: as => a :: mask bs as
  | false :: bs, _ :: as => .unk :: mask bs as
  | [], as => as
  | _, [] => []
def firstRegion : Code → Nat
  | .region id _ _ => id
  | .seq a _ => firstRegion a
  | .block _ c => firstRegion c
  | .loop c => firstRegion c
  | .scope c => firstRegion c
  | _ => 0

/-- No two operations of a region write one slot; what an operation reads and another writes is ordered by an edge. -/
def opReads (ops : Array Oper) (o : Oper) : List Nat :=
  (o.op.operands.toList.filterMap fun | .tmp t => some t | _ => none) ++
    (match o.guard with
    | some (g, _) => ((ops[g]?).bind (·.dst)).toList
    | none => [])
def hasEdge (o : Oper) (j : Nat) : Bool := o.after.any fun e => Region.binds .any e && e.on == j
def ordPair (ops : Array Oper) (i j : Nat) (oi oj : Oper) : Bool :=
  (i == j) || (match oj.dst with
    | some d => (oi.dst != some d) && (!(opReads ops oi).contains d || (if j < i then hasEdge oi j else hasEdge oj i))
    | none => true)
def ordOk (ops : Array Oper) : Bool :=
  (ops.toList.zipIdx.all fun p => (p.1.after.all fun e => !Region.binds .any e || decide (e.on < p.2)) && ops.toList.zipIdx.all fun q => ordPair ops p.2 q.2 p.1 q.1)
def noSel (ops : Array Oper) : Bool := ops.all fun o => match o.op with | .select _ _ => false | _ => true

/-- What stands behind a piece of code. -/
def seqQ (next : List AV → Heap → Prop) (Q : AExit → List AV → Heap → Prop) : AExit → List AV → Heap → Prop
  | .normal, F, H => next F H
  | .exit id, F, H => Q (.exit id) F H
  | .ret, F, H => Q .ret F H
def blkQ (id : Nat) (Q : AExit → List AV → Heap → Prop) : AExit → List AV → Heap → Prop
  | .normal, F, H => Q .normal F H
  | .exit id', F, H => (match id' == id with
    | true => Q .normal F H
    | false => Q (.exit id') F H)
  | .ret, F, H => Q .ret F H

def awp (P : Program) (M : Nat → List Bool) : Code → (AExit → List AV → Heap → Prop) → List AV → Heap → Prop
  | .skip, Q, F, H => Q .normal F H
  | .label _, Q, F, H => Q .normal F H
  | .region _ ops draw, Q, F, H => (match draw with
    | false => runOps P ops ops.toList (Q .normal) F H
    | true => (match ordOk ops && P.follows .mixedOrders with
      | true => runD P ops ops.toList (Q .normal) F H
      | false => False))
  | .seq a b, Q, F, H => awp P M a (seqQ (awp P M b Q) Q) F H
  | .cond c a b, Q, F, H => aTest (ev F c) (awp P M a Q F H) (awp P M b Q F H)
  | .block id c, Q, F, H => awp P M c (blkQ id Q) F H
  | .scope c, Q, F, H => awp P M c Q F H
  | .loop c, Q, F, H => ALoop P c Q (mask (M (firstRegion c)) F) H
  | .ret, Q, F, H => Q .ret F H
  | .exit id, Q, F, H => Q (.exit id) F H
  | _, _, _, _ => False

/-! ### Places in code -/
def codeAt : List Nat → Code → Code
  | [], c => c
  | 0 :: p, .seq a _ => codeAt p a
  | _ :: p, .seq _ b => codeAt p b
  | 0 :: p, .cond _ a _ => codeAt p a
  | _ :: p, .cond _ _ b => codeAt p b
  | _ :: p, .block _ c => codeAt p c
  | _ :: p, .scope c => codeAt p c
  | _ :: p, .loop c => codeAt p c
  | _, c => c
/-- What stands behind the place. -/
def contAt (P : Program) (M : Nat → List Bool) : List Nat → Code → (AExit → List AV → Heap → Prop) → AExit → List AV → Heap → Prop
  | [], _, Q => Q
  | 0 :: p, .seq a b, Q => contAt P M p a (seqQ (awp P M b Q) Q)
  | _ :: p, .seq _ b, Q => contAt P M p b Q
  | 0 :: p, .cond _ a _, Q => contAt P M p a Q
  | _ :: p, .cond _ _ b, Q => contAt P M p b Q
  | _ :: p, .block id c, Q => contAt P M p c (blkQ id Q)
  | _ :: p, .scope c, Q => contAt P M p c Q
  | _, _, Q => Q
/-- What stands behind a loop's round. -/
def roundQ (m : List Bool) (Kb : List AV → Heap → Prop) (Q : AExit → List AV → Heap → Prop) : AExit → List AV → Heap → Prop
  | .normal, F, H => Kb (mask m F) H
  | .exit id, F, H => Q (.exit id) F H
  | .ret, F, H => Q .ret F H

end Go.Abs
