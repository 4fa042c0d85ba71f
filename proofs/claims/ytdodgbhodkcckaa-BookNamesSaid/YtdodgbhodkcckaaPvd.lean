/- What a call comes to, what each operation and each piece of code asks, told on plain values. No program is in sight here. -/
import Derived.Test.YtdodgbhodkcckaaPvc
set_option linter.unusedVariables false
set_option linter.unusedSimpArgs false
set_option autoImplicit false
namespace Go.Proofs.Ytdodgbhodkcckaa.Pv
open Go Go.RowKit

/-- A state of objects alone. -/
def St.only (h : List (Nat × PObj)) : St := ⟨[], h, 0⟩
def Act.none : Act := ⟨#[], []⟩

/-- The call of f with such values, and such objects that it may change, comes to an end: it hands back r and leaves the objects h'; nothing else that was there has changed. Objects that are handed in have numbers below 8; what is new: from 8 on. -/
def Runs (P : Program) (f : FuncId) (args : List PVal) (h : List (Nat × PObj)) (r : PVal) (h' : List (Nat × PObj)) : Prop :=
  (∃ fn, P.funcs[f]? = some fn ∧ (fn.name == "runtime.NumGoroutine") = false ∧ fn.body.isNone = false) ∧
  ∀ (E : Env) (S : Nat → Nat → Prop) (φ : Nat → Nat → Option (Nat × Nat)) (cs : List Value), (∀ b, E.pass b → Owned φ h b) → (∀ k v, S k v → k < 8) →
    Rst E S φ (.only h) Act.none E.w0 → undL S args → PRepL E.w0 (Held E φ h) φ args cs →
    Calls P f cs.toArray E.w0 fun e w' => ∃ c φ' S', e = .returned c ∧ Rst E S' φ' (.only h') Act.none w' ∧ (∀ k v, S' k v → (∃ v', S k v') ∨ (8 ≤ k ∧ k < 12)) ∧ (∀ k v, S k v → S' k v ∧ φ' k v = φ k v) ∧
      r.und S' ∧ PRep w' (Held E φ' h') φ' r c

/-- Data as other data that tells less: nil is an empty slice. -/
def subV (x : Value) (y : D) : Prop := match x, y with
  | .slice none 0 0, .slc _ els => els = []
  | x, y => y = .v x
mutual
def subD : D → D → Prop
  | .agg xs, y => (match y with | .agg ys => subL xs ys | _ => False)
  | .tup xs, y => (match y with | .tup ys => subL xs ys | _ => False)
  | .v x, y => subV x y
  | .slc s es, y => y = .slc s es
  | .ifc t p, y => y = .ifc t p
  | .fn f a b, y => y = .fn f a b
  | .ptr cs, y => y = .ptr cs
def subL : List D → List D → Prop
  | [], ys => ys = []
  | x :: xs, ys => (match ys with | [] => False | y :: ys => subD x y ∧ subL xs ys)
end

/-! ### Steps -/
def St.put (st : St) (dst : Option Nat) (p : PVal) : St := match dst with
  | some t => { st with tmps := (t, p) :: st.tmps }
  | none => st

/-- What an operation comes to: a value, objects that are given up, objects that are new or changed. -/
structure Eff where
  val : PVal
  dels : List Nat := []
  upds : List (Nat × PObj) := []

def updAll : List (Nat × PObj) → List (Nat × PObj) → List (Nat × PObj)
  | [], h => h
  | (id, o) :: l, h => updAll l (upd id o h)
def delAll : List Nat → List (Nat × PObj) → List (Nat × PObj)
  | [], h => h
  | id :: l, h => delAll l (del id h)

def St.app (st : St) (dst : Option Nat) (e : Eff) : St := { (st.put dst e.val) with heap := updAll e.upds (delAll e.dels st.heap) }

def PVal.strip : PVal → PVal × Prop
  | .gd g p => (p, g = true)
  | p => (p, True)

def St.evs (st : St) (x : Operand) : PVal := (st.ev x).strip.1
/-- The guards of what an operation reads. -/
def St.gds (st : St) : List Operand → Prop
  | [] => True
  | [x] => (st.ev x).strip.2
  | x :: l => (st.ev x).strip.2 ∧ St.gds st l

def convP (T : Nat → Option TI) (dst : Nat) (x : PVal) : Option PVal := match kindOf T dst, asInt x with
  | some (.int k), some (_, n) => some (pint k (k.wrap n))
  | some .string, none => (asStr x).map pstr
  | _, _ => none

def unP (op : UnOp) (x : PVal) : Option PVal := match op, asInt x, asBool x with
  | .neg, some (k, n), _ => some (pint k (k.wrap (0 - n)))
  | .not, _, some b => some (pbool (!b))
  | _, _, _ => none

def minI (a b : Int) : Int := if b < a then b else a
def maxI (a b : Int) : Int := if a < b then b else a

/-- What an operation computes: its value, and what it asks for that. -/
def computeP (T : Nat → Option TI) (eqt : Nat → Option (List CK)) (st : St) : Op → Option (PVal × Prop)
  | .move x | .assign x => some (st.ev x, True)
  | .pick c a b => match asBool (st.evs c) with
    | some t => (pickP t (st.ev a) (st.ev b)).map fun r => (r.1, st.gds [c] ∧ r.2)
    | none => none
  | .unOp op _ x => (unP op (st.evs x)).map fun v => (v, st.gds [x])
  | .binOp op t x y _ => (binP T eqt st.heap op t (st.evs x) (st.evs y)).map fun r => (r.1, st.gds [x, y] ∧ r.2)
  | .convert src dst x => if (T src).any fun i => i.kind.known then (convP T dst (st.evs x)).map fun v => (v, st.gds [x]) else none
  | .build t parts => (buildP T t (parts.toList.map fun q => (q.1, st.evs q.2))).map fun v => (v, st.gds (parts.toList.map (·.2)))
  | .load t x => (loadP T st t (st.evs x)).map fun v => (v, st.gds [x])
  | .fieldAddr t x f => (fieldAddrP T t (st.evs x) f).map fun v => (v, st.gds [x])
  | .field t x f => (fieldP T t (st.evs x) f).map fun v => (v, st.gds [x])
  | .indexAddr t x i => (indexAddrP T t (st.evs x) (st.evs i)).map fun r => (r.1, st.gds [x, i] ∧ r.2)
  | .index t x i => (indexP T t (st.evs x) (st.evs i)).map fun r => (r.1, st.gds [x, i] ∧ r.2)
  | .slice t x lo hi mx => match optInt st lo, optInt st hi, optInt st mx with
    | some l, some h, some m => (sliceP T t (roomOf st.heap (st.evs x)) (st.evs x) l h m).map fun r => (r.1, st.gds [x] ∧ r.2)
    | _, _, _ => none
  | .extract x i => match st.ev x with
    | .tup vs => vs[i]?.map fun v => (v, True)
    | .d (.tup ds) => ds[i]?.map fun v => (.d v, True)
    | _ => none
  | .nilCheck x => match st.evs x with
    | .ref id k => some (.ref id k, st.gds [x])
    | .d (.ptr cs) => some (.d (.ptr cs), st.gds [x])
    | .refE a b c d e => some (.refE a b c d e, st.gds [x])
    | _ => none
  | .makeFunc fn first cap => some (.clo fn (first.toList.map st.evs) (cap.toList.map st.evs), st.gds (first.toList ++ cap.toList))
  | .makeInterface t x => if (T t).any fun i => i.kind.known && !(i.kind matches .iface) then some (.ifc t (st.evs x), st.gds [x]) else none
  | .call ⟨.builtin .len, args, ts⟩ => match args.toList, ts.toList with
    | [x], [t] => (lenP T t (st.evs x)).map fun n => (pint .i64 n, st.gds [x])
    | _, _ => none
  | .call ⟨.builtin .cap, args, ts⟩ => match args.toList, ts.toList with
    | [x], [t] => (match kindOf T t, st.evs x with
      | some (.slice _), .own id ver s off len => (match find id st.heap with
        | some (.arr _ _ ver' (some n) _) => if ver = ver' then some (pint .i64 ((n - off : Nat) : Int), st.gds [x]) else none
        | _ => none)
      | _, _ => none)
    | _, _ => none
  | .call ⟨.builtin .min, args, _⟩ => match args.toList with
    | [x, y] => (match asInt (st.evs x), asInt (st.evs y) with
      | some (k, a), some (_, b) => some (pint k (minI a b), st.gds [x, y])
      | _, _ => none)
    | _ => none
  | .call ⟨.builtin .max, args, _⟩ => match args.toList with
    | [x, y] => (match asInt (st.evs x), asInt (st.evs y) with
      | some (k, a), some (_, b) => some (pint k (maxI a b), st.gds [x, y])
      | _, _ => none)
    | _ => none
  | _ => none

mutual
/-- Objects named by a value, their numbers turned. -/
def PVal.shift (ρ : Nat → Nat) : PVal → PVal
  | .agg ps => .agg (shiftL ρ ps)
  | .tup ps => .tup (shiftL ρ ps)
  | .ref id k => .ref (ρ id) k
  | .refE id ver s i k => .refE (ρ id) ver s i k
  | .own id ver s off len => .own (ρ id) ver s off len
  | .mp id => .mp (ρ id)
  | .clo f a b => .clo f (shiftL ρ a) (shiftL ρ b)
  | .ifc t p => .ifc t (PVal.shift ρ p)
  | .gd b p => .gd b (PVal.shift ρ p)
  | x => x
def shiftL (ρ : Nat → Nat) : List PVal → List PVal
  | [] => []
  | p :: ps => PVal.shift ρ p :: shiftL ρ ps
end
def PObj.shift (ρ : Nat → Nat) : PObj → PObj
  | .box ps => .box (shiftL ρ ps)
  | o => o
def shiftH (ρ : Nat → Nat) : List (Nat × PObj) → List (Nat × PObj)
  | [] => []
  | (id, o) :: l => (ρ id, o.shift ρ) :: shiftH ρ l

mutual
/-- The objects that a value names. -/
def PVal.ids : PVal → List Nat
  | .agg ps | .tup ps => idsL ps
  | .own id _ _ _ _ | .ref id _ | .refE id _ _ _ _ | .mp id => [id]
  | .clo _ a b => idsL a ++ idsL b
  | .ifc _ p | .gd _ p => PVal.ids p
  | .d _ | .dead => []
def idsL : List PVal → List Nat
  | [] => []
  | p :: ps => PVal.ids p ++ idsL ps
end

mutual
/-- Numbers, truths, texts, and records of these: no address. -/
def D.flat : D → Bool
  | .v _ => true
  | .agg ds | .tup ds => flatL ds
  | _ => false
def flatL : List D → Bool
  | [] => true
  | d :: ds => D.flat d && flatL ds
end
def PVal.flat : PVal → Bool
  | .d x => x.flat
  | _ => false
/-- What a callee is handed: data, or the value itself. -/
def argP (h : List (Nat × PObj)) (ρ : Nat → Nat) (q p : PVal) : Prop := match p with
  | .d y => (match q.toD h with
    | some x => subD x y
    | none => False)
  | p => q = p.shift ρ
def argsP (h : List (Nat × PObj)) (ρ : Nat → Nat) : List PVal → List PVal → Prop
  | [], [] => True
  | q :: qs, p :: ps => argP h ρ q p ∧ argsP h ρ qs ps
  | _, _ => False
/-- The objects that are read as data for it. -/
def frozen : List PVal → List PVal → List Nat
  | q :: qs, .d _ :: ps => q.ids ++ frozen qs ps
  | _ :: qs, _ :: ps => frozen qs ps
  | _, _ => []
/-- The numbers of objects of a callee's, as the caller's. -/
def rename (L : List Nat) (nid : Nat → Nat) (k : Nat) : Nat := if k < 8 then L.getD k (nid (k + 4)) else nid (k - 8)

/-- The function that is called, and what it has captured. -/
def callee (p : PVal) : Option (Nat × List PVal × List PVal) := match p with
  | .d (.v (.func (.func f) a b)) => some (f, a.toList.map fun c => .d (.v c), b.toList.map fun c => .d (.v c))
  | .d (.fn (.func f) a b) => some (f, a.map .d, b.map .d)
  | .clo (.func f) a b => some (f, a, b)
  | _ => none

/-- A call's effect: L: the numbers of the objects that are handed in; give: objects that are read as data are given up. -/
def callP (P : Program) (fid : Nat) (nid : Nat → Nat) (st : St) (qs : List PVal) (L : List Nat) (ps : List PVal) (h : List (Nat × PObj)) (r : PVal) (h' : List (Nat × PObj)) (give : Bool) (K : Eff → Prop) : Prop :=
  argsP st.heap (rename L nid) qs ps ∧ Runs P fid ps h r h' ∧ (L.Nodup ∧ L.length ≤ 8 ∧ h.map (·.1) = List.range L.length ∧ (h.map fun q => some (q.2.shift (rename L nid))) = L.map fun i => find i st.heap) ∧
    ((h'.map (·.1)).Nodup ∧ ∀ i ∈ frozen qs ps, i ∉ L) ∧ (give = true ∨ frozen qs ps = [] ∨ (r.flat = true ∧ h' = [])) ∧
    K ⟨r.shift (rename L nid), L ++ (if give = true then frozen qs ps else []), shiftH (rename L nid) h'⟩

/-- A call, and what comes behind it. -/
def CallK (P : Program) (fid : Nat) (nid : Nat → Nat) (st : St) (qs : List PVal) (K : Eff → Prop) : Prop := ∃ L ps h r h' give, callP P fid nid st qs L ps h r h' give K
/-- A call behind a guard: of data. -/
def CallG (P : Program) (fid : Nat) (g : Bool) (st : St) (qs : List PVal) (G : Prop) (K : Eff → Prop) : Prop :=
  ∃ ps x, (g = true → argsP st.heap (fun k => k) qs ps ∧ (∀ p ∈ ps, ∃ y, p = .d y) ∧ Runs P fid ps [] (.d x) [] ∧ G) ∧ (frozen qs ps = [] ∨ x.flat = true) ∧ K ⟨.gd g (.d x), [], []⟩

/-- The function is slices.overlaps, of slices of type tS. -/
def IsOver (P : Program) (fid tS : Nat) : Prop := ∃ fn tR, P.funcs[fid]? = some fn ∧ (fn.name == "runtime.NumGoroutine") = false ∧ fn.body.isNone = true ∧ Extern.findNext fn = none ∧ Extern.find fn = some (Extern.SlicesOverlaps.overlaps #[tS, tS] #[tR])
/-- Two rows of one's own don't overlap. -/
def OverK (P : Program) (T : Nat → Option TI) (fid : Nat) (st : St) (qs : List PVal) (K : Eff → Prop) : Prop :=
  ∃ tS el te id1 v1 o1 l1 id2 v2 o2 l2 e1 r1 els1 e2 r2 els2, (IsOver P fid tS ∧ kindOf T tS = some (.slice el) ∧ T el = some te ∧ 0 < te.size) ∧ qs = [.own id1 v1 te.size o1 l1, .own id2 v2 te.size o2 l2] ∧ id1 ≠ id2 ∧
    (find id1 st.heap = some (.arr e1 te.size v1 r1 els1) ∧ find id2 st.heap = some (.arr e2 te.size v2 r2 els2) ∧ 0 < l1 ∧ 0 < l2) ∧ K ⟨pbool false, [], []⟩

/-- A row's elements that are told, or those of a slice that stays; and how long it is. -/
def srcP (h : List (Nat × PObj)) (s : Nat) : PVal → Option (List D × Nat)
  | .own id ver s' off len => match find id h with
    | some (.arr _ s'' ver' _ els) => if s' = s ∧ s'' = s ∧ ver' = ver then some ((els.drop off).take len, len) else none
    | _ => none
  | p => (asSlc s p).map fun els => (els, els.length)

/-- A store into a row's element, from its k-th cell on. -/
def storeE (s ver k : Nat) (d : D) (o : PObj) (i : Nat) : Option PObj := match o with
  | .arr e s' ver' room els => if s = s' ∧ ver = ver' ∧ k + d.cells.length ≤ s then els[i]?.map fun el => .arr e s ver room (els.set i (el.withCells (splice el.cells k d.cells))) else none
  | _ => none

/-- What an operation asks: what it computes, or does, and then K. nid: numbers for what it makes. -/
def stepP (P : Program) (T : Nat → Option TI) (eqt : Nat → Option (List CK)) (nid : Nat → Nat) (op : Op) (st : St) (K : Eff → Prop) : Prop := match op with
  | .alloc t => match T t with
    | some ti => K ⟨.ref (nid 0) 0, [], [(nid 0, .box (zeroCells ti.zero))]⟩
    | none => False
  | .box t x => match T t with
    | some _ => ((st.evs x).told = true ∧ st.gds [x]) ∧ K ⟨.ref (nid 0) 0, [], [(nid 0, .box (st.evs x).cells)]⟩
    | none => False
  | .buildSlice t len parts => match kindOf T t with
    | some (.slice e) => (match T e, toDL st.heap (parts.toList.map fun q => st.evs q.2) with
      | some te, some ds => (parts.toList.map (·.1) = List.range len ∧ len * te.size ≤ 16777216 ∧ len ≤ maxLen ∧ (∀ d ∈ ds, d.cells.length = te.size ∧ d.cells.all D.one = true) ∧ st.gds (parts.toList.map (·.2))) ∧
          K ⟨.own (nid 0) 0 te.size 0 len, idsL (parts.toList.map fun q => st.evs q.2), [(nid 0, .arr e te.size 0 (some len) ds)]⟩
      | _, _ => False)
    | _ => False
  | .makeSlice t l c => match kindOf T t, asInt (st.evs l), asInt (st.evs c) with
    | some (.slice e), some (_, l'), some (_, c') => (match T e with
      | some te => (0 ≤ l' ∧ l' ≤ c' ∧ (te.bytes : Int) * c' ≤ 281474976710656 ∧ c' ≤ maxLen ∧ st.gds [l, c]) ∧
          K ⟨.own (nid 0) 0 te.size 0 l'.toNat, [], [(nid 0, .arr e te.size 0 (some c'.toNat) (List.replicate l'.toNat (ofV te.zero)))]⟩
      | none => False)
    | _, _, _ => False
  | .store t a x => match T t, st.evs a with
    | some ti, .ref id k => (match find id st.heap with
      | some (.box cells) => ((st.evs x).cells.length = ti.size ∧ k + ti.size ≤ cells.length ∧ (st.evs x).cells.all PVal.one = true ∧ st.gds [a, x]) ∧
          K ⟨.dead, [], [(id, .box (splice cells k (st.evs x).cells))]⟩
      | _ => False)
    | some ti, .refE id ver s i k => (match find id st.heap, (st.evs x).toD st.heap with
      | some o, some d => (match storeE s ver k d o i with
        | some o' => (d.cells.length = ti.size ∧ d.cells.all D.one = true ∧ (st.evs x).ids.contains id = false ∧ st.gds [a, x]) ∧ K ⟨.dead, (st.evs x).ids, [(id, o')]⟩
        | none => False)
      | _, _ => False)
    | _, _ => False
  | .call ⟨.builtin .append, args, ts⟩ => match args.toList, ts.toList with
    | [s, x], [t, t'] => (match kindOf T t, kindOf T t' with
      | some (.slice e), some (.int .i64) => (match T e, st.evs s, asInt (st.evs x) with
        | some te, .own id ver s' off len, some (.i64, m) => (match find id st.heap with
          | some (.arr e' s'' ver' (some r) els) => (off = 0 ∧ e' = e ∧ s' = te.size ∧ s'' = s' ∧ ver' = ver ∧ len ≤ els.length ∧ 0 < els.length ∧ 0 < m ∧ 0 < te.size ∧ r < len + m.toNat ∧ len + m.toNat ≤ maxLen ∧ (len + m.toNat) * te.bytes ≤ 140737488355328 ∧ st.gds [s, x]) ∧
              K ⟨.own (nid 0) 0 s' 0 (len + m.toNat), [], [(nid 0, .arr e s' 0 none (els.take len ++ List.replicate m.toNat (ofV te.zero)))]⟩
          | _ => False)
        | _, _, _ => False)
      | some (.slice e), _ => (match T e, (st.evs x).toD st.heap with
        | some te, some dx => (match asSlc te.size (.d dx) with
          | some new => (t = t' ∧ st.gds [s, x] ∧ 0 < te.size ∧ ∀ d ∈ new, d.cells.all D.one = true) ∧ (match st.evs s with
            | .d (.v (.slice none 0 0)) => (new.length ≤ maxLen ∧ new.length * te.bytes ≤ 140737488355328) ∧ K ⟨.own (nid 0) 0 te.size 0 new.length, (st.evs x).ids, [(nid 0, .arr e te.size 0 none new)]⟩
            | .own id ver s' off len => (match find id st.heap with
              | some (.arr e' s'' ver' room els) => ((off = 0 ∧ e' = e ∧ s' = te.size ∧ s'' = s' ∧ ver' = ver ∧ len ≤ els.length ∧ len + new.length ≤ maxLen ∧ (len + new.length) * te.bytes ≤ 140737488355328 ∧ (st.evs x).ids.contains id = false) ∧
                  (K ⟨.own id (ver + 1) s' 0 (len + new.length), (st.evs x).ids, [(id, .arr e s' (ver + 1) none (els.take len ++ new))]⟩ ∨
                    ((match room with | some r => r < len + new.length | none => False) ∧ K ⟨.own (nid 0) 0 s' 0 (len + new.length), (st.evs x).ids, [(nid 0, .arr e s' 0 none (els.take len ++ new))]⟩))) ∨
                  (match srcP st.heap te.size (st.evs x) with
                  | some (src, n) => (src.length = n ∧ off = 0 ∧ e' = e ∧ s' = te.size ∧ s'' = s' ∧ ver' = ver ∧ len + src.length ≤ els.length ∧ ∀ d ∈ src, d.cells.all D.one = true) ∧ K ⟨.own id ver s' 0 (len + src.length), [], [(id, .arr e' s' ver room (els.take len ++ src ++ els.drop (len + src.length)))]⟩
                  | none => False)
              | _ => False)
            | _ => False)
          | none => False)
        | _, _ => False)
      | _, _ => False)
    | _, _ => False
  | .call ⟨.builtin .copy, args, ts⟩ => match args.toList, ts.toList with
    | [d, x], [t, _] => (match kindOf T t with
      | some (.slice e) => (match T e, st.evs d with
        | some te, .own id ver s' off len => (match find id st.heap, srcP st.heap te.size (st.evs x) with
          | some (.arr e' s'' ver' room els), some (src, n) => (min n len ≤ src.length ∧ s' = te.size ∧ s'' = s' ∧ ver' = ver ∧ off ≤ els.length ∧ 0 < te.size ∧ (∀ d ∈ src, d.cells.all D.one = true) ∧ st.gds [d, x]) ∧
              K ⟨pint .i64 ((min n len : Nat) : Int), [], [(id, .arr e' s' ver room (els.take off ++ src.take (min n len) ++ els.drop (off + min n len)))]⟩
          | _, _ => False)
        | _, _ => False)
      | _ => False)
    | _, _ => False
  | .call ⟨.builtin .clear, args, ts⟩ => match args.toList, ts.toList with
    | [x], [t] => (match kindOf T t with
      | some (.slice e) => (match T e, st.evs x with
        | some te, .own id ver s' off len => (match find id st.heap with
          | some (.arr e' s'' ver' room els) => (s' = te.size ∧ s'' = s' ∧ ver' = ver ∧ off ≤ els.length ∧ 0 < te.size ∧ (ofV te.zero).cells.all D.one = true ∧ st.gds [x]) ∧
              K ⟨.d (.tup []), [], [(id, .arr e' s' ver room (els.take off ++ List.replicate len (ofV te.zero) ++ els.drop (off + len)))]⟩
          | _ => False)
        | _, _ => False)
      | _ => False)
    | _, _ => False
  | .call ⟨.value f, args, _⟩ => match callee (st.evs f) with
    | some (fid, a, b) => st.gds (f :: args.toList) ∧ (CallK P fid nid st (a ++ args.toList.map st.evs ++ b) K ∨ OverK P T fid st (a ++ args.toList.map st.evs ++ b) K)
    | none => False
  | op => match computeP T eqt st op with
    | some (p, pre) => pre ∧ K ⟨p, [], []⟩
    | none => False

/-- An operation behind a guard: it only computes, or calls, and what it gives is there if the guard holds. -/
def stepG (P : Program) (T : Nat → Option TI) (eqt : Nat → Option (List CK)) (nid : Nat → Nat) (g : Bool) (op : Op) (st : St) (K : Eff → Prop) : Prop := match op with
  | .call ⟨.value f, args, _⟩ => match callee (st.evs f) with
    | some (fid, a, b) => CallG P fid g st (a ++ args.toList.map st.evs ++ b) (st.gds (f :: args.toList)) K
    | none => False
  | .buildSlice t len parts => (match g with
    | true => stepP P T eqt nid (.buildSlice t len parts) st K
    | false => K ⟨.dead, [], []⟩)
  | op => match computeP T eqt st op with
    | some (p, pre) => (g = true → pre) ∧ K ⟨(match p with | .gd g' q => .gd (g && g') q | p => .gd g p), [], []⟩
    | none => g = false ∧ K ⟨.gd false .dead, [], []⟩

def dstOf (ops : List Oper) (i : Nat) : Option Nat := match ops[i]? with
  | some o => o.dst
  | none => none

/-- Does a guard hold? -/
def guardP (p : PVal) (want : Bool) : Option Bool := match p with
  | .gd g q => (match asBool q with
    | some b => some (g && (b == want))
    | none => if g = true then none else some false)
  | q => (asBool q).map fun b => b == want

/-- What an operation of a region asks, behind its guard. -/
def opP (P : Program) (T : Nat → Option TI) (eqt : Nat → Option (List CK)) (nid : Nat → Nat) (all : List Oper) (o : Oper) (st : St) (K : Eff → Prop) : Prop := match o.guard with
  | none => stepP P T eqt nid o.op st K
  | some (g, want) => match dstOf all g with
    | some t => (match guardP (st.ev (.tmp t)) want with
      | some b => stepG P T eqt nid b o.op st K
      | none => False)
    | none => False

end Go.Proofs.Ytdodgbhodkcckaa.Pv
