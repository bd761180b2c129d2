/- The operations with what is static about them resolved (types, offsets, sizes): computing operations as a function on values, and that the function tells what the model does. -/
import Derived.Test.YtkdbajfaaifkaaaCore
namespace Go.Xs

inductive XOp where
  | mov (x : Operand)
  | pick (c a b : Operand)
  | nilc (x : Operand)
  | bin (op : BinOp) (x y : Operand)
  | eqb (neg : Bool) (x y : Operand)
  | eqn (k : Nat) (neg : Bool) (x y : Operand)
  | eqs (neg : Bool) (offs : List (Nat × Nat)) (x y : Operand)
  | un (op : UnOp) (x : Operand)
  | conv (k : IntKind) (x : Operand)
  | fadr (x : Operand) (off : Nat)
  | fld1 (x : Operand) (off : Nat)
  | fldN (x : Operand) (off len : Nat)
  | iadr (x i : Operand) (size : Nat)
  | aadr (x i : Operand) (len size : Nat)
  | sidx (x i : Operand)
  | ext (x : Operand) (i : Nat)
  | slc (size : Nat) (x : Operand) (lo hi mx : Option Operand)
  | sslc (x : Operand) (lo hi : Option Operand)
  | aslc (len size : Nat) (x : Operand) (lo hi mx : Option Operand)
  | mkf (fn : Fn) (first cap : List Operand)
  | build (zero : List Value) (parts : List (Nat × Nat × Operand))
  | len (x : Operand)
  | slen (x : Operand)
  | lenK (k : Nat)
  | cap (x : Operand)
  | min (x : Operand) (xs : List Operand)
  | max (x : Operand) (xs : List Operand)
  -- memory
  | load1 (a : Operand)
  | loadN (k : Nat) (a : Operand)
  | store (size : Nat) (a v : Operand)
  | alloc (ty : TypeId) (zero : List Value)
  | box (ty : TypeId) (x : Operand)
  | bsl (ty len size : Nat) (zero : List Value) (parts : List (Nat × Operand))
  | mksl (ty size bytes : Nat) (zero : List Value) (l c : Operand)
  | app (ty size bytes : Nat) (zero : List Value) (s x : Operand)
  | copy (size : Nat) (d s : Operand)
  | clr (zero : List Value) (x : Operand)
  | b2s (x : Operand)
  | s2b (ty : TypeId) (x : Operand)
  | call (f : Operand) (args : List Operand)
  | raw (op : Op) (ty : TypeId)
  deriving Inhabited

/-- bounds of a slice expression -/
def bnd1 (v : Option Int) (y : Nat) (dflt : Option Nat) : Option Nat :=
  match v with
  | some v => if 0 ≤ v ∧ v ≤ (y : Int) then some v.toNat else none
  | none => dflt
def bnd (lo hi mx : Option Int) (len cap : Nat) (three : Bool) : Option (Nat × Nat × Nat) :=
  (bnd1 mx cap (some cap)).bind fun m => (bnd1 hi m (if three then none else some len)).bind fun h => (bnd1 lo h (some 0)).bind fun l => some (l, h, m)

def asI : Value → Option Int
  | .int _ k => some k
  | _ => none
def bndV (ρ : Operand → Value) (o : Option Operand) : Option (Option Int) :=
  match o with
  | none => some none
  | some x => match asI (ρ x) with
    | some v => some (some v)
    | none => none

def xbits (op : BinOp) (k : IntKind) (x y : Int) : Int :=
  let a := BitVec.ofInt k.bits x
  let b := BitVec.ofInt k.bits y
  match op with
  | .and => k.wrap ((a &&& b).toNat : Int)
  | .or => k.wrap ((a ||| b).toNat : Int)
  | .xor => k.wrap ((a ^^^ b).toNat : Int)
  | _ => k.wrap ((a &&& ~~~b).toNat : Int)

def xint (op : BinOp) (k : IntKind) (a b : Int) : Option Value :=
  match op with
  | .add => some (.int k (k.wrap (a + b)))
  | .sub => some (.int k (k.wrap (a - b)))
  | .mul => some (.int k (k.wrap (a * b)))
  | .quo => if b = 0 then none else some (.int k (k.wrap (a.tdiv b)))
  | .rem => if b = 0 then none else some (.int k (a.tmod b))
  | .and => some (.int k (xbits .and k a b))
  | .or => some (.int k (xbits .or k a b))
  | .xor => some (.int k (xbits .xor k a b))
  | .andNot => some (.int k (xbits .andNot k a b))
  | .eql => some (.bool (decide (a = b)))
  | .neq => some (.bool (!decide (a = b)))
  | .lss => some (.bool (decide (a < b)))
  | .leq => some (.bool (decide (a ≤ b)))
  | .gtr => some (.bool (decide (b < a)))
  | .geq => some (.bool (decide (b ≤ a)))
  | .shl => if b < 0 then none else some (.int k (k.wrap (a * 2 ^ (Nat.min b.toNat k.bits))))
  | .shr => if b < 0 then none else some (.int k (a.fdiv (2 ^ (Nat.min b.toNat k.bits))))

def xstr (op : BinOp) (a b : ByteArray) : Option Value :=
  match op with
  | .add => if a.size + b.size ≤ 9223372036854775807 then some (.string (a ++ b)) else none
  | .eql => some (.bool (decide (a = b)))
  | .neq => some (.bool (!decide (a = b)))
  | .lss => some (.bool (Op.bytesLess a.toList b.toList))
  | _ => none

def xbin (op : BinOp) (x y : Value) : Option Value :=
  match x, y with
  | .int k a, .int k' b => if k = k' ∨ op = .shl ∨ op = .shr then xint op k a b else none
  | .string a, .string b => xstr op a b
  | _, _ => none

/-- one side is nil for sure; k: the type's kind, 0 pointer, 1 slice, 2 map, 3 func -/
def xeqn (k : Nat) (x y : Value) : Option Bool :=
  match k, x, y with
  | 0, .pointer none, .pointer none => some true
  | 0, .pointer none, .pointer (some _) => some false
  | 0, .pointer (some _), .pointer none => some false
  | 1, .slice none _ _, .slice none _ _ => some true
  | 1, .slice none _ _, .slice (some _) _ _ => some false
  | 1, .slice (some _) _ _, .slice none _ _ => some false
  | 2, .map none, .map none => some true
  | 2, .map none, .map (some _) => some false
  | 2, .map (some _), .map none => some false
  | 3, .nilFunc, .nilFunc => some true
  | 3, .nilFunc, .func _ _ _ => some false
  | 3, .func _ _ _, .nilFunc => some false
  | _, _, _ => none

/-- cells that are held against each other one by one -/
def xeq1 (kind : Nat) (x y : Value) : Option Bool :=
  match kind, x, y with
  | 0, .int k a, .int k' b => if k = k' then some (decide (a = b)) else none
  | 1, .string a, .string b => some (decide (a = b))
  | 2, .bool a, .bool b => some (a == b)
  | _, _, _ => none
def xeqs (xs ys : Array Value) : List (Nat × Nat) → Option Bool
  | [] => some true
  | (i, k) :: r => match xs[i]?, ys[i]? with
    | some a, some b => match xeq1 k a b, xeqs xs ys r with
      | some p, some q => some (p && q)
      | _, _ => none
    | _, _ => none

def setAll (l : List Value) (off : Nat) : List Value → List Value
  | [] => l
  | x :: c => setAll (l.set off x) (off + 1) c
def xbuild (ρ : Operand → Value) : List Value → List (Nat × Nat × Operand) → Option (List Value)
  | z, [] => some z
  | z, (off, size, x) :: r =>
    if (ρ x).cells.size = size ∧ off + size ≤ z.length then xbuild ρ (setAll z off (ρ x).cells.toList) r else none

def xminI (l : Int) : List Int → Int
  | [] => l
  | x :: r => xminI (if x < l then x else l) r
def xmaxI (l : Int) : List Int → Int
  | [] => l
  | x :: r => xmaxI (if x > l then x else l) r
def xints (ρ : Operand → Value) : List Operand → Option (List Int)
  | [] => some []
  | x :: r => match asI (ρ x), xints ρ r with
    | some a, some l => some (a :: l)
    | _, _ => none

/-- WHAT A COMPUTING OPERATION YIELDS; none: it may panic here, or is no computing one. -/
def pstep (ρ : Operand → Value) : XOp → Option Value
  | .mov x => some (ρ x)
  | .pick c a b => match ρ c with
    | .bool true => some (ρ a)
    | .bool false => some (ρ b)
    | _ => none
  | .nilc x => match ρ x with
    | .pointer (some a) => some (.pointer (some a))
    | .func (.func f) first cap => some (.func (.func f) first cap)
    | .func (.yield l) first cap => some (.func (.yield l) first cap)
    | _ => none
  | .bin op x y => xbin op (ρ x) (ρ y)
  | .eqb neg x y => match ρ x, ρ y with
    | .bool a, .bool b => (match neg with | true => some (.bool (!(a == b))) | false => some (.bool (a == b)))
    | _, _ => none
  | .eqn k neg x y => match neg, xeqn k (ρ x) (ρ y) with
    | false, some b => some (.bool b)
    | true, some b => some (.bool (!b))
    | _, none => none
  | .eqs neg offs x y => match ρ x, ρ y with
    | .agg xs, .agg ys => (match neg, xeqs xs ys offs with
      | false, some b => some (.bool b)
      | true, some b => some (.bool (!b))
      | _, none => none)
    | _, _ => none
  | .un op x => match op, ρ x with
    | .not, .bool b => some (.bool (!b))
    | .neg, .int k a => some (.int k (k.wrap (0 - a)))
    | _, _ => none
  | .conv k x => match ρ x with
    | .int _ a => some (.int k (k.wrap a))
    | _ => none
  | .fadr x off => match ρ x with
    | .pointer (some ⟨b, o, none⟩) => some (.pointer (some ⟨b, o + off, none⟩))
    | _ => none
  | .fld1 x off => match ρ x with
    | .agg cs => cs[off]?
    | _ => none
  | .fldN x off len => match ρ x with
    | .agg cs => some (.agg (cs.extract off (off + len)))
    | _ => none
  | .iadr x i size => match ρ x, ρ i with
    | .slice (some ⟨b, o, none⟩) len _, .int _ k => if 0 ≤ k ∧ k < (len : Int) then some (.pointer (some ⟨b, o + k.toNat * size, none⟩)) else none
    | _, _ => none
  | .aadr x i len size => match ρ x, ρ i with
    | .pointer (some ⟨b, o, none⟩), .int _ k => if 0 ≤ k ∧ k < (len : Int) then some (.pointer (some ⟨b, o + k.toNat * size, none⟩)) else none
    | _, _ => none
  | .sidx x i => match ρ x, ρ i with
    | .string s, .int _ k => if 0 ≤ k then (match s[k.toNat]? with | some b => some (.int .u8 b.toNat) | none => none) else none
    | _, _ => none
  | .ext x i => match ρ x with
    | .tuple vs => vs[i]?
    | _ => none
  | .slc size x lo hi mx => match ρ x, bndV ρ lo, bndV ρ hi, bndV ρ mx with
    | .slice a len cap, some lo', some hi', some mx' => match bnd lo' hi' mx' len cap mx.isSome with
      | some (l, h, m) => some (.slice (if m = l then a else a.map (·.add (l * size))) (h - l) (m - l))
      | none => none
    | _, _, _, _ => none
  | .sslc x lo hi => match ρ x, bndV ρ lo, bndV ρ hi with
    | .string s, some lo', some hi' => match bnd lo' hi' none s.size s.size false with
      | some (l, h, _) => some (.string (s.extract l h))
      | none => none
    | _, _, _ => none
  | .aslc len size x lo hi mx => match ρ x, bndV ρ lo, bndV ρ hi, bndV ρ mx with
    | .pointer (some a), some lo', some hi', some mx' => match bnd lo' hi' mx' len len mx.isSome with
      | some (l, h, m) => some (.slice (some (if m = l then a else a.add (l * size))) (h - l) (m - l))
      | none => none
    | _, _, _, _ => none
  | .mkf fn first cap => some (.func fn (first.map ρ).toArray (cap.map ρ).toArray)
  | .build zero parts => match xbuild ρ zero parts with
    | some l => some (.agg l.toArray)
    | none => none
  | .len x => match ρ x with
    | .slice _ k _ => some (.int .i64 k)
    | _ => none
  | .slen x => match ρ x with
    | .string s => some (.int .i64 s.size)
    | _ => none
  | .lenK k => some (.int .i64 k)
  | .cap x => match ρ x with
    | .slice _ _ k => some (.int .i64 k)
    | _ => none
  | .min x xs => match ρ x, xints ρ xs with
    | .int k a, some l => some (.int k (xminI a l))
    | _, _ => none
  | .max x xs => match ρ x, xints ρ xs with
    | .int k a, some l => some (.int k (xmaxI a l))
    | _, _ => none
  | _ => none

/-! ### compiling one operation -/
def sizeOf? (P : Program) (t : TypeId) : Option Nat := (P.info? t).map (·.size)
def zero? (P : Program) (t : TypeId) : Option (List Value) := ((P.info? t).bind (·.zero)).map fun v => v.cells.toList
def bytes? (P : Program) (t : TypeId) : Option Nat := (P.info? t).map (·.bytes)
def isAgg? (P : Program) (t : TypeId) : Option Bool :=
  match P.underlying t with
  | some (.struct _) => some true
  | some (.array _ _) => some true
  | some _ => some false
  | none => none

/-- the fields of a struct that are ints, strings, bools, each a cell -/
def flatFields (P : Program) (fs : List Field) : Option (List (Nat × Nat)) :=
  match fs with
  | [] => some []
  | f :: r => if f.name = "_" then none else match P.underlying f.type, flatFields P r with
    | some (.int _), some l => some ((f.offset, 0) :: l)
    | some .string, some l => some ((f.offset, 1) :: l)
    | some .bool, some l => some ((f.offset, 2) :: l)
    | _, _ => none

def cParts (P : Program) (fs : List Field) : List (Nat × Operand) → Option (List (Nat × Nat × Operand))
  | [] => some []
  | (i, x) :: r => match fs[i]?, cParts P fs r with
    | some f, some l => match sizeOf? P f.type with
      | some s => some ((f.offset, s, x) :: l)
      | none => none
    | _, _ => none

def cEq (P : Program) (neg : Bool) (t : TypeId) (x y : Operand) : Option XOp :=
  match P.underlying t with
  | some (.int _) => some (.bin (if neg then .neq else .eql) x y)
  | some .string => some (.bin (if neg then .neq else .eql) x y)
  | some .bool => some (.eqb neg x y)
  | some (.pointer _) => some (.eqn 0 neg x y)
  | some (.slice _) => some (.eqn 1 neg x y)
  | some (.map _ _) => some (.eqn 2 neg x y)
  | some (.func _ _ _) => some (.eqn 3 neg x y)
  | some (.struct fs) =>
    if P.stoodInHeld t || P.eqGuardType P.depth t then none else
    match flatFields P fs.toList with
    | some l => some (.eqs neg l x y)
    | none => none
  | _ => none

def cop (P : Program) (op : Op) (ty : TypeId) : XOp :=
  let raw := XOp.raw op ty
  match op with
  | .move x => .mov x
  | .assign x => .mov x
  | .pick c a b => .pick c a b
  | .nilCheck x => .nilc x
  | .binOp .eql t x y _ => (cEq P false t x y).getD raw
  | .binOp .neq t x y _ => (cEq P true t x y).getD raw
  | .binOp o _ x y _ => .bin o x y
  | .unOp o _ x => .un o x
  | .convert s d x =>
    match P.underlying s, P.underlying d with
    | some (.int _), some (.int k) => .conv k x
    | some .string, some .string => .raw op ty
    | some (.slice e), some .string => (match P.underlying e with | some (.int .u8) => .b2s x | _ => raw)
    | some .string, some (.slice e) => (match P.underlying e with | some (.int .u8) => .s2b e x | _ => raw)
    | _, _ => raw
  | .fieldAddr s x f =>
    match P.underlying s with
    | some (.struct fs) => (match fs[f]? with
      | some fd => (match sizeOf? P fd.type with
        | some 0 => raw
        | some _ => .fadr x fd.offset
        | none => raw)
      | none => raw)
    | _ => raw
  | .field s x f =>
    match P.underlying s with
    | some (.struct fs) => (match fs[f]? with
      | some fd => (match isAgg? P fd.type, sizeOf? P fd.type with
        | some true, some k => .fldN x fd.offset k
        | some false, _ => .fld1 x fd.offset
        | _, _ => raw)
      | none => raw)
    | _ => raw
  | .indexAddr t x i =>
    match P.underlying t with
    | some (.slice e) => (match sizeOf? P e with | some k => .iadr x i k | none => raw)
    | some (.array len e) => (match sizeOf? P e with | some k => .aadr x i len k | none => raw)
    | _ => raw
  | .index t x i =>
    match P.underlying t with
    | some .string => .sidx x i
    | _ => raw
  | .extract x i => .ext x i
  | .slice t x lo hi mx =>
    match P.underlying t with
    | some (.slice e) => (match sizeOf? P e with | some k => .slc k x lo hi mx | none => raw)
    | some .string => if mx.isSome then raw else .sslc x lo hi
    | some (.array len e) => (match sizeOf? P e with | some k => .aslc len k x lo hi mx | none => raw)
    | _ => raw
  | .makeFunc fn first cap => .mkf fn first.toList cap.toList
  | .build t parts =>
    match P.underlying t, zero? P t with
    | some (.struct fs), some z => if fs.toList.all (fun f => (sizeOf? P f.type).isSome) then (match cParts P fs.toList parts.toList with | some l => .build z l | none => raw) else raw
    | _, _ => raw
  | .load t a => (match isAgg? P t, sizeOf? P t with
    | some true, some k => .loadN k a
    | some false, _ => .load1 a
    | _, _ => raw)
  | .store t a v => (match sizeOf? P t with | some k => .store k a v | none => raw)
  | .alloc t => (match zero? P t with | some z => .alloc t z | none => raw)
  | .box t x => .box t x
  | .buildSlice t len parts =>
    match P.underlying t with
    | some (.slice e) => (match sizeOf? P e, zero? P e with | some k, some z => .bsl e len k z parts.toList | _, _ => raw)
    | _ => raw
  | .makeSlice t l c =>
    match P.underlying t with
    | some (.slice e) => (match sizeOf? P e, zero? P e, bytes? P e with | some k, some z, some b => .mksl e k b z l c | _, _, _ => raw)
    | _ => raw
  | .call c =>
    match c.callee with
    | .value f => .call f c.args.toList
    | .invoke _ _ => raw
    | .builtin b =>
      match b, c.args.toList, c.argTypes.toList with
      | .len, [x], [t] => (match P.underlying t with
        | some .string => .slen x
        | some (.slice _) => .len x
        | some (.array k _) => .lenK k
        | some (.pointer e) => (match P.underlying e with | some (.array k _) => .lenK k | _ => raw)
        | _ => raw)
      | .cap, [x], [t] => (match P.underlying t with | some (.slice _) => .cap x | _ => raw)
      | .min, x :: xs, _ => .min x xs
      | .max, x :: xs, _ => .max x xs
      | .append, [s, x], [t, u] => (match P.underlying t, P.underlying u with
        | _, some (.int _) => raw
        | some (.slice e), some _ => (match sizeOf? P e, zero? P e, bytes? P e with | some k, some z, some b => .app e k b z s x | _, _, _ => raw)
        | _, _ => raw)
      | .copy, [d, s], t :: _ => (match P.underlying t with
        | some (.slice e) => (match sizeOf? P e with | some k => .copy k d s | none => raw)
        | _ => raw)
      | .clear, [x], [t] => (match P.underlying t with
        | some (.slice e) => (match zero? P e with | some z => .clr z x | none => raw)
        | _ => raw)
      | _, _, _ => raw
  | _ => raw

end Go.Xs
