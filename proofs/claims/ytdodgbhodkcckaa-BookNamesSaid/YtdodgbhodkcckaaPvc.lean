/- What each operation does to a frame's state, told on plain values; types by a table. No program is in sight here. -/
import Derived.Test.YtdodgbhodkcckaaPvb
set_option linter.unusedVariables false
set_option linter.unusedSimpArgs false
set_option autoImplicit false
namespace Go.Proofs.Ytdodgbhodkcckaa.Pv
open Go

/-! ### Types -/
inductive TK where
  | int (k : IntKind) | bool | string | struct (fs : List (Nat × Nat × Bool)) | array (n e : Nat) | slice (e : Nat) | ptr (e : Nat) | map (k e : Nat) | func | iface | other

def TK.isAgg : TK → Bool
  | .struct _ | .array _ _ => true
  | _ => false
def TK.known : TK → Bool
  | .other => false
  | _ => true

/-- What is used of a type: its kind, its cells, its bytes, its zero value. -/
structure TI where
  kind : TK
  size : Nat
  bytes : Nat
  zero : Value

def aggOf (P : Program) (t : Nat) : Bool := match P.underlying t with
  | some (.struct _) | some (.array _ _) => true
  | _ => false

def FieldsOK (P : Program) : List (Nat × Nat × Bool) → List Field → Prop
  | [], [] => True
  | (o, s, g) :: fs, f :: gs => f.offset = o ∧ (P.info? f.type).map (·.size) = some s ∧ (P.underlying f.type).isSome = true ∧ aggOf P f.type = g ∧ FieldsOK P fs gs
  | _, _ => False

def DescOK (P : Program) (t : Nat) : TK → Prop
  | .int k => P.underlying t = some (.int k)
  | .bool => P.underlying t = some .bool
  | .string => P.underlying t = some .string
  | .struct fs => ∃ fields : Array Field, P.underlying t = some (.struct fields) ∧ FieldsOK P fs fields.toList
  | .array n e => P.underlying t = some (.array n e)
  | .slice e => P.underlying t = some (.slice e)
  | .ptr e => P.underlying t = some (.pointer e)
  | .map k e => P.underlying t = some (.map k e)
  | .func => ∃ a b c, P.underlying t = some (.func a b c)
  | .iface => ∃ ms, P.underlying t = some (.interface ms)
  | .other => True

structure TOK (P : Program) (t : Nat) (i : TI) : Prop where
  info : ∃ f, P.info? t = some f ∧ f.size = i.size ∧ f.bytes = i.bytes ∧ f.zero = some i.zero
  zsize : i.zero.cells.size = i.size
  desc : DescOK P t i.kind

def TbOK (P : Program) (T : Nat → Option TI) : Prop := ∀ t i, T t = some i → TOK P t i

/-- A type's kind. -/
def kindOf (T : Nat → Option TI) (t : Nat) : Option TK := (T t).map TI.kind

/-! ### Views -/
def asInt : PVal → Option (IntKind × Int)
  | .d (.v (.int k n)) => some (k, n)
  | _ => none
def asBool : PVal → Option Bool
  | .d (.v (.bool b)) => some b
  | _ => none
def asStr : PVal → Option ByteArray
  | .d (.v (.string s)) => some s
  | _ => none
/-- A slice that stays: its elements. -/
def asSlc (s : Nat) : PVal → Option (List D)
  | .d (.slc s' els) => if s' = s then some els else none
  | .d (.v (.slice _ 0 _)) => some []
  | _ => none
abbrev pint (k : IntKind) (n : Int) : PVal := .d (.v (.int k n))
abbrev pbool (b : Bool) : PVal := .d (.v (.bool b))
abbrev pstr (s : ByteArray) : PVal := .d (.v (.string s))
abbrev pnil : PVal := .d (.v (.slice none 0 0))

/-- A cell's value alone. -/
def D.one : D → Bool
  | .agg _ | .tup _ | .v (.agg _) | .v (.tuple _) => false
  | _ => true
def PVal.one : PVal → Bool
  | .d x => x.one
  | .agg _ | .tup _ | .gd _ _ | .dead => false
  | _ => true

def splice {α : Type} (cs : List α) (o : Nat) (ps : List α) : List α := cs.take o ++ ps ++ cs.drop (o + ps.length)

/-- Cells as a value of a type. -/
def ofCells (n : Nat) (agg : Bool) (cells : List PVal) : Option PVal :=
  if agg then (if n ≤ cells.length then some (.agg (cells.take n)) else none) else cells.head?

/-- An element with other cells. -/
def D.withCells (e : D) (cells : List D) : D := match e with
  | .agg _ | .v (.agg _) => .agg cells
  | _ => cells.headD e

/-- Values that are all data. -/
def dataL : List PVal → Option (List D)
  | [] => some []
  | p :: l => match p, dataL l with
    | .d x, some ds => some (x :: ds)
    | _, _ => none

mutual
/-- As data, if it is such: a row and a variable of one's own by what it holds now. -/
def PVal.toD (h : List (Nat × PObj)) : PVal → Option D
  | .d x => some x
  | .agg ps => (toDL h ps).map .agg
  | .tup ps => (toDL h ps).map .tup
  | .own id ver s off len => match find id h with
    | some (.arr _ s' ver' _ els) => if s = s' ∧ ver = ver' ∧ off + len ≤ els.length then some (.slc s ((els.drop off).take len)) else none
    | _ => none
  | .ref id k => match find id h with
    | some (.box cells) => (dataL cells).map fun ds => .ptr (ds.drop k)
    | _ => none
  | .clo f a b => match toDL h a, toDL h b with
    | some x, some y => some (.fn f x y)
    | _, _ => none
  | .ifc t p => (PVal.toD h p).map (.ifc t)
  | _ => none
def toDL (h : List (Nat × PObj)) : List PVal → Option (List D)
  | [] => some []
  | p :: ps => match PVal.toD h p, toDL h ps with
    | some d, some ds => some (d :: ds)
    | _, _ => none
end

/-! ### Operations that compute -/
/-- Two whole numbers of one kind; a shift's count is of any kind. -/
def intOp (op : BinOp) (k k' : IntKind) (a b : Int) : Option (Value × Prop) := match op with
  | .shl => some (.int k (k.wrap (a * 2 ^ min b.toNat k.bits)), 0 ≤ b)
  | .shr => some (.int k (a.fdiv (2 ^ min b.toNat k.bits)), 0 ≤ b)
  | op => if k = k' then (match op with
    | .add => some (.int k (k.wrap (a + b)), True)
    | .sub => some (.int k (k.wrap (a - b)), True)
    | .mul => some (.int k (k.wrap (a * b)), True)
    | .quo => some (.int k (k.wrap (a.tdiv b)), b ≠ 0)
    | .rem => some (.int k (a.tmod b), b ≠ 0)
    | .and => some (.int k (k.wrap (BitVec.ofInt k.bits a &&& BitVec.ofInt k.bits b).toNat), True)
    | .or => some (.int k (k.wrap (BitVec.ofInt k.bits a ||| BitVec.ofInt k.bits b).toNat), True)
    | .xor => some (.int k (k.wrap (BitVec.ofInt k.bits a ^^^ BitVec.ofInt k.bits b).toNat), True)
    | .andNot => some (.int k (k.wrap (BitVec.ofInt k.bits a &&& ~~~BitVec.ofInt k.bits b).toNat), True)
    | .eql => some (.bool (a == b), True)
    | .neq => some (.bool (a != b), True)
    | .lss => some (.bool (decide (a < b)), True)
    | .leq => some (.bool (decide (a ≤ b)), True)
    | .gtr => some (.bool (decide (a > b)), True)
    | .geq => some (.bool (decide (a ≥ b)), True)
    | _ => none) else none

def strOp (op : BinOp) (a b : ByteArray) : Option (Value × Prop) := match op with
  | .add => some (.string (a ++ b), a.size + b.size ≤ 9223372036854775807)
  | .eql => some (.bool (a.toList == b.toList), True)
  | .neq => some (.bool (!(a.toList == b.toList)), True)
  | .lss => some (.bool (Op.bytesLess a.toList b.toList), True)
  | _ => none

/-- What a cell of a comparison holds. -/
inductive CK where
  | int | bool | str

/-- Data as the cells of a comparison: whole numbers, truths, texts. -/
def cellEq : CK → D → D → Option Bool
  | .int, .v (.int k a), .v (.int k' b) => if k = k' then some (a == b) else none
  | .bool, .v (.bool a), .v (.bool b) => some (a == b)
  | .str, .v (.string a), .v (.string b) => some (a.toList == b.toList)
  | _, _, _ => none
def cellsEq : List CK → List D → List D → Option Bool
  | [], [], [] => some true
  | [c], [a], [b] => cellEq c a b
  | c :: cs, a :: as, b :: bs => match cellEq c a b, cellsEq cs as bs with
    | some x, some y => some (x && y)
    | _, _ => none
  | _, _, _ => none

/-- Is a value of a kind nil? -/
def isNil : TK → PVal → Option Bool
  | .func, .d (.v .nilFunc) => some true
  | .func, .clo _ _ _ => some false
  | .func, .d (.fn _ _ _) => some false
  | .func, .d (.v (.func _ _ _)) => some false
  | .ptr _, .d (.v (.pointer none)) => some true
  | .ptr _, .ref _ _ => some false
  | .ptr _, .d (.ptr _) => some false
  | .ptr _, .refE _ _ _ _ _ => some false
  | .slice _, .d (.v (.slice none _ _)) => some true
  | .slice _, .d (.v (.slice (some _) _ _)) => some false
  | .slice _, .d (.slc _ (_ :: _)) => some false
  | .map _ _, .d (.v (.map none)) => some true
  | .map _ _, .mp _ => some false
  | _, _ => none

/-- Values of which one is nil. -/
def nilP (k : TK) (op : BinOp) (x y : PVal) : Option (PVal × Prop) := match isNil k x, isNil k y, op with
  | some a, some true, .eql => some (pbool a, True)
  | some a, some true, .neq => some (pbool (!a), True)
  | some true, some b, .eql => some (pbool b, True)
  | some true, some b, .neq => some (pbool (!b), True)
  | _, _, _ => none

/-- Structs, cell by cell. -/
def recP (ks : List CK) (op : BinOp) (dx dy : Option D) : Option (PVal × Prop) := match dx, dy with
  | some (.agg xs), some (.agg ys) => (match cellsEq ks xs ys, op with
    | some b, .eql => some (pbool b, True)
    | some b, .neq => some (pbool (!b), True)
    | _, _ => none)
  | _, _ => none

def binP (T : Nat → Option TI) (eqt : Nat → Option (List CK)) (h : List (Nat × PObj)) (op : BinOp) (t : Nat) (x y : PVal) : Option (PVal × Prop) :=
  match asInt x, asInt y with
  | some (k, a), some (k', b) => (intOp op k k' a b).map fun r => (.d (.v r.1), r.2)
  | _, _ => match asStr x, asStr y with
    | some a, some b => (strOp op a b).map fun r => (.d (.v r.1), r.2)
    | _, _ => match kindOf T t with
      | some .bool => (match asBool x, asBool y, op with
        | some a, some b, .eql => some (pbool (a == b), True)
        | some a, some b, .neq => some (pbool (!(a == b)), True)
        | _, _, _ => none)
      | some (.struct _) => (match eqt t with
        | some ks => recP ks op (x.toD h) (y.toD h)
        | none => none)
      | some k => nilP k op x y
      | none => none

/-- A value of the program's text as data. -/
def ofV : Value → D
  | .agg cs => .agg (cs.toList.map .v)
  | x => .v x

def St.ev (st : St) : Operand → PVal
  | .tmp t => (find t st.tmps).getD .dead
  | .const v => .d (ofV v)
  | .func f => .d (.v (.func (.func f) #[] #[]))
  | .global g => .d (.v (.pointer (some ⟨g, 0, none⟩)))

def loadP (T : Nat → Option TI) (st : St) (t : Nat) (x : PVal) : Option PVal := match T t with
  | none => none
  | some ti => if ti.kind.known then (match x with
    | .ref id k => (match find id st.heap with
      | some (.box cells) => ofCells ti.size ti.kind.isAgg (cells.drop k)
      | _ => none)
    | .refE id ver s i k => (match find id st.heap with
      | some (.arr _ s' ver' _ els) => if s = s' ∧ ver = ver' ∧ k + ti.size ≤ s then (match els[i]? with
        | some e => ofCells ti.size ti.kind.isAgg ((e.cells.drop k).map .d)
        | none => none) else none
      | _ => none)
    | .d (.ptr cells) => ofCells ti.size ti.kind.isAgg (cells.map .d)
    | _ => none) else none

def fieldAddrP (T : Nat → Option TI) (t : Nat) (x : PVal) (f : Nat) : Option PVal := match kindOf T t with
  | some (.struct fs) => (match fs[f]? with
    | some (o, sz, _) => if sz = 0 then none else (match x with
      | .ref id k => some (.ref id (k + o))
      | .refE id ver s i k => some (.refE id ver s i (k + o))
      | .d (.ptr cells) => some (.d (.ptr <| cells.drop o))
      | _ => none)
    | none => none)
  | _ => none

def fieldP (T : Nat → Option TI) (t : Nat) (x : PVal) (f : Nat) : Option PVal := match kindOf T t with
  | some (.struct fs) => (match fs[f]? with
    | some (o, sz, g) => (match x with
      | .agg cs => if o + sz ≤ cs.length then ofCells sz g (cs.drop o) else none
      | .d (.agg cs) => if o + sz ≤ cs.length then ofCells sz g ((cs.drop o).map .d) else none
      | _ => none)
    | none => none)
  | _ => none

def indexAddrP (T : Nat → Option TI) (t : Nat) (x ix : PVal) : Option (PVal × Prop) := match asInt ix, kindOf T t with
  | some (_, i), some (.slice e) => (match T e with
    | none => none
    | some te => match x with
      | .own id ver s off len => if s = te.size then some (.refE id ver s (off + i.toNat) 0, 0 ≤ i ∧ i.toNat < len) else none
      | x => match asSlc te.size x with
        | some els => (match els[i.toNat]? with
          | some el => some (.d (.ptr el.cells), 0 ≤ i)
          | none => none)
        | none => none)
  | some (_, i), some (.array n e) => (match T e with
    | none => none
    | some te => match x with
      | .ref id k => some (.ref id (k + i.toNat * te.size), 0 ≤ i ∧ i.toNat < n)
      | .refE id ver s j k => some (.refE id ver s j (k + i.toNat * te.size), 0 ≤ i ∧ i.toNat < n)
      | .d (.ptr cells) => some (.d (.ptr <| cells.drop (i.toNat * te.size)), 0 ≤ i ∧ i.toNat < n)
      | _ => none)
  | _, _ => none

def indexP (T : Nat → Option TI) (t : Nat) (x ix : PVal) : Option (PVal × Prop) := match asInt ix, asStr x, kindOf T t with
  | some (_, i), some s, some .string => (match s[i.toNat]? with
    | some b => some (pint .u8 b.toNat, 0 ≤ i)
    | none => none)
  | _, _, _ => none

def optInt (st : St) : Option Operand → Option (Option Int)
  | none => some none
  | some x => (asInt (st.ev x)).map fun r => some r.2

/-- The room behind an own row's slice, if it is told. -/
def roomOf (h : List (Nat × PObj)) : PVal → Option Nat
  | .own id ver _ _ _ => match find id h with
    | some (.arr _ _ ver' room _) => if ver' = ver then room else none
    | _ => none
  | _ => none
def upTo (rm : Option Nat) (off len : Nat) : Int := match rm with
  | some c => ((c - off : Nat) : Int)
  | none => (len : Int)

/-- x[lo:hi], x[lo:hi:mx] -/
def sliceP (T : Nat → Option TI) (t : Nat) (rm : Option Nat) (x : PVal) (lo hi mx : Option Int) : Option (PVal × Prop) := match kindOf T t with
  | some .string => (match asStr x, mx with
    | some s, none => some (pstr (s.extract (lo.getD 0).toNat (hi.getD s.size).toNat), 0 ≤ lo.getD 0 ∧ lo.getD 0 ≤ hi.getD s.size ∧ hi.getD s.size ≤ s.size)
    | _, _ => none)
  | some (.slice e) => (match T e with
    | none => none
    | some te => match x with
      | .own id ver s off len => if s = te.size ∧ mx = none then
          some (.own id ver s (off + (lo.getD 0).toNat) ((hi.getD len).toNat - (lo.getD 0).toNat), 0 ≤ lo.getD 0 ∧ lo.getD 0 ≤ hi.getD len ∧ hi.getD len ≤ upTo rm off len)
        else if s = te.size then (match hi, mx with
          | some h, some m => some (.dead, 0 ≤ lo.getD 0 ∧ lo.getD 0 ≤ h ∧ h ≤ m ∧ m ≤ upTo rm off len)
          | _, _ => none) else none
      | x => match asSlc te.size x with
        | some els => if mx = none ∨ hi ≠ none then some (.d (.slc te.size ((els.take (hi.getD els.length).toNat).drop (lo.getD 0).toNat)),
            0 ≤ lo.getD 0 ∧ lo.getD 0 ≤ hi.getD els.length ∧ hi.getD els.length ≤ mx.getD els.length ∧ mx.getD els.length ≤ els.length) else none
        | none => none)
  | _ => none

def lenP (T : Nat → Option TI) (t : Nat) (x : PVal) : Option Int := match kindOf T t with
  | some .string => (asStr x).map fun s => (s.size : Int)
  | some (.slice e) => (match x with
    | .d (.slc _ els) => some els.length
    | .d (.v (.slice _ n _)) => some n
    | .own _ _ _ _ len => some len
    | _ => none)
  | some (.array n _) => some n
  | _ => none

/-- Parts laid over cells. -/
def fillP (place : Nat → Option (Nat × Nat)) : List PVal → List (Nat × PVal) → Option (List PVal)
  | cells, [] => some cells
  | cells, (i, p) :: rest => match place i with
    | none => none
    | some (o, sz) => if p.cells.length = sz ∧ o + sz ≤ cells.length ∧ p.cells.all PVal.one then fillP place (splice cells o p.cells) rest else none

def zeroCells (v : Value) : List PVal := v.cells.toList.map fun c => .d (.v c)

def buildP (T : Nat → Option TI) (t : Nat) (parts : List (Nat × PVal)) : Option PVal := match T t with
  | some ⟨.struct fs, _, _, z⟩ => (fillP (fun i => fs[i]?.map fun f => (f.1, f.2.1)) (zeroCells z) parts).map .agg
  | some ⟨.array _ e, _, _, z⟩ => (match T e with
    | some te => (fillP (fun i => some (i * te.size, te.size)) (zeroCells z) parts).map .agg
    | none => none)
  | _ => none

/-- Is a value told, without a guard? -/
def PVal.told : PVal → Bool
  | .gd _ _ | .dead => false
  | _ => true

/-- c ? a : b -/
def pickP (c : Bool) (a b : PVal) : Option (PVal × Prop) :=
  let strip : PVal → PVal × Prop := fun | .gd g p => (p, g = true) | p => (p, True)
  match asBool (strip a).1, asBool (strip b).1 with
  | some x, some y => some (pbool (bif c then x else y), (c = true → (strip a).2) ∧ (c = false → (strip b).2))
  | _, _ => match asInt (strip a).1, asInt (strip b).1 with
    | some (k, x), some (k', y) => if k = k' then some (pint k (bif c then x else y), (c = true → (strip a).2) ∧ (c = false → (strip b).2)) else none
    | _, _ => match (strip a).1, (strip b).1 with
      | .d p, .dead => some (.d p, c = true ∧ (strip a).2)
      | .dead, .d q => some (.d q, c = false ∧ (strip b).2)
      | _, _ => none

end Go.Proofs.Ytdodgbhodkcckaa.Pv
