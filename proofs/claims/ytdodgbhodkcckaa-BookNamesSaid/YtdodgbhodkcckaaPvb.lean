/- Values that a frame holds, its own objects, and when a frame and a world are a state of these. No program is in sight here. -/
import Derived.Test.YtdodgbhodkcckaaPva
set_option linter.unusedVariables false
set_option linter.unusedSimpArgs false
set_option autoImplicit false
namespace Go.Proofs.Ytdodgbhodkcckaa.Pv
open Go

/-- The cells of data. -/
def D.cells : D → List D
  | .agg cs => cs
  | .v (.agg cs) => cs.toList.map .v
  | x => [x]

theorem DRepL.vs {w : World} {O : Nat → Prop} : ∀ l : List Value, DRepL w O (l.map .v) l
  | [] => by simp [DRepL]
  | x :: l => by simp only [List.map_cons, DRepL]; exact ⟨x, l, rfl, by simp [DRep], DRepL.vs l⟩

theorem DRep.cells {w : World} {O : Nat → Prop} {d : D} {c : Value} (h : DRep w O d c) : DRepL w O d.cells c.cells.toList := by
  cases d with
  | v x =>
    simp only [DRep] at h; subst h
    cases c <;> first
      | (simp only [D.cells, Value.cells, DRepL]; exact ⟨_, [], rfl, by simp [DRep], rfl⟩)
      | (simp only [D.cells, Value.cells]; exact DRepL.vs _)
  | agg ds => simp only [DRep] at h; obtain ⟨cs, rfl, h⟩ := h; simpa [D.cells, Value.cells] using h
  | tup ds => have h' := h; simp only [DRep] at h; obtain ⟨cs, rfl, _⟩ := h; simp only [D.cells, Value.cells, DRepL]; exact ⟨_, [], rfl, h', rfl⟩
  | slc s es => have h' := h; simp only [DRep] at h; obtain ⟨a, cap, rfl, _⟩ := h; simp only [D.cells, Value.cells, DRepL]; exact ⟨_, [], rfl, h', rfl⟩
  | ifc t p => have h' := h; simp only [DRep] at h; obtain ⟨x, rfl, _⟩ := h; simp only [D.cells, Value.cells, DRepL]; exact ⟨_, [], rfl, h', rfl⟩
  | fn f a b => have h' := h; simp only [DRep] at h; obtain ⟨x, y, rfl, _⟩ := h; simp only [D.cells, Value.cells, DRepL]; exact ⟨_, [], rfl, h', rfl⟩
  | ptr ds => have h' := h; simp only [DRep] at h; obtain ⟨b, off, cs, rfl, _⟩ := h; simp only [D.cells, Value.cells, DRepL]; exact ⟨_, [], rfl, h', rfl⟩

/-- What a frame holds: data; pointers to variables of its own (ref), to elements of its own rows (refE); rows of its own (own); maps; function values; a value that is there just if a guard holds (gd). -/
inductive PVal where
  | d (x : D)
  | agg (cs : List PVal)
  | tup (cs : List PVal)
  | ref (id k : Nat)
  | refE (id ver s i k : Nat)
  | own (id ver s off len : Nat)
  | mp (id : Nat)
  | clo (f : Fn) (a b : List PVal)
  | ifc (t : Nat) (p : PVal)
  | gd (b : Bool) (p : PVal)
  | dead

instance : Inhabited PVal := ⟨.dead⟩

/-- A frame's objects: a variable, a row (its elements' type, so many cells an element, its version, its room if that is told; without a block it is nil), a map. -/
inductive PObj where
  | box (cells : List PVal)
  | arr (e s ver : Nat) (room : Option Nat) (els : List D)
  | map (es : List (D × D))

mutual
def PRep (w : World) (O : Nat → Prop) (φ : Nat → Nat → Option (Nat × Nat)) : PVal → Value → Prop
  | .d x, c => DRep w O x c
  | .agg ps, c => ∃ cs : List Value, c = .agg cs.toArray ∧ PRepL w O φ ps cs
  | .tup ps, c => ∃ cs : List Value, c = .tuple cs.toArray ∧ PRepL w O φ ps cs
  | .ref id k, c => ∃ b n, φ id 0 = some (b, n) ∧ c = .pointer (some ⟨b, k, none⟩)
  | .refE id ver s i k, c => ∃ b n, φ id ver = some (b, n) ∧ c = .pointer (some ⟨b, i * s + k, none⟩)
  | .own id ver s off len, c => (φ id ver = none ∧ off = 0 ∧ len = 0 ∧ c = .slice none 0 0) ∨
      ∃ b n ad, φ id ver = some (b, n) ∧ off + len ≤ n ∧ c = .slice ad len (n - off) ∧ (n - off = 0 ∨ ad = some ⟨b, off * s, none⟩)
  | .mp id, c => ∃ b n, φ id 0 = some (b, n) ∧ c = .map (some b)
  | .clo f a b, c => ∃ x y : List Value, c = .func f x.toArray y.toArray ∧ PRepL w O φ a x ∧ PRepL w O φ b y
  | .ifc t p, c => ∃ x, c = .iface t x ∧ PRep w O φ p x
  | .gd b p, c => (b = true → PRep w O φ p c) ∧ (b = false → c = undef)
  | .dead, _ => True
def PRepL (w : World) (O : Nat → Prop) (φ : Nat → Nat → Option (Nat × Nat)) : List PVal → List Value → Prop
  | [], cs => cs = []
  | p :: ps, cs => ∃ c cs', cs = c :: cs' ∧ PRep w O φ p c ∧ PRepL w O φ ps cs'
end

mutual
/-- All names in a value (an object's number, and a version) are such of which n speaks. -/
def PVal.und (n : Nat → Nat → Prop) : PVal → Prop
  | .d _ | .dead => True
  | .agg ps | .tup ps => undL n ps
  | .ref id _ | .mp id => n id 0
  | .refE id ver _ _ _ | .own id ver _ _ _ => n id ver
  | .clo _ a b => undL n a ∧ undL n b
  | .ifc _ p => PVal.und n p
  | .gd b p => b = true → PVal.und n p
def undL (n : Nat → Nat → Prop) : List PVal → Prop
  | [] => True
  | p :: ps => PVal.und n p ∧ undL n ps
end

section
variable {n n' : Nat → Nat → Prop}
mutual
theorem PVal.und_mono (hn : ∀ id v, n id v → n' id v) : ∀ p : PVal, p.und n → p.und n'
  | .d _, _ | .dead, _ => by simp only [PVal.und]
  | .agg ps, h | .tup ps, h => by simp only [PVal.und] at h ⊢; exact undL_mono hn ps h
  | .ref id _, h | .mp id, h => by simp only [PVal.und] at h ⊢; exact hn _ _ h
  | .refE id _ _ _ _, h | .own id _ _ _ _, h => by simp only [PVal.und] at h ⊢; exact hn _ _ h
  | .clo _ a b, h => by simp only [PVal.und] at h ⊢; exact ⟨undL_mono hn a h.1, undL_mono hn b h.2⟩
  | .ifc _ p, h => by simp only [PVal.und] at h ⊢; exact PVal.und_mono hn p h
  | .gd _ p, h => by simp only [PVal.und] at h ⊢; exact fun e => PVal.und_mono hn p (h e)
theorem undL_mono (hn : ∀ id v, n id v → n' id v) : ∀ ps : List PVal, undL n ps → undL n' ps
  | [], _ => by simp only [undL]
  | p :: ps, h => by simp only [undL] at h ⊢; exact ⟨PVal.und_mono hn p h.1, undL_mono hn ps h.2⟩
end
end

section
variable {w w' : World} {O O' : Nat → Prop} {φ φ' : Nat → Nat → Option (Nat × Nat)} {n : Nat → Nat → Prop}
mutual
theorem PRep.keep (hk : Keeps O w w') (hO : ∀ b, b < w.heap.size → O' b → O b) (hφ : ∀ id v, n id v → φ' id v = φ id v) : ∀ (p : PVal) (c : Value), p.und n → PRep w O φ p c → PRep w' O' φ' p c
  | .d x, c, _, h => by simp only [PRep] at h ⊢; exact DRep.keep hk hO x c h
  | .agg ps, c, hb, h => by
    simp only [PRep, PVal.und] at h hb ⊢
    obtain ⟨cs, e, h⟩ := h
    exact ⟨cs, e, PRepL.keep hk hO hφ ps cs hb h⟩
  | .tup ps, c, hb, h => by
    simp only [PRep, PVal.und] at h hb ⊢
    obtain ⟨cs, e, h⟩ := h
    exact ⟨cs, e, PRepL.keep hk hO hφ ps cs hb h⟩
  | .ref id k, c, hb, h => by simp only [PRep, PVal.und] at h hb ⊢; rw [hφ _ _ hb]; exact h
  | .refE id ver s i k, c, hb, h => by simp only [PRep, PVal.und] at h hb ⊢; rw [hφ _ _ hb]; exact h
  | .own id ver s off len, c, hb, h => by simp only [PRep, PVal.und] at h hb ⊢; rw [hφ _ _ hb]; exact h
  | .mp id, c, hb, h => by simp only [PRep, PVal.und] at h hb ⊢; rw [hφ _ _ hb]; exact h
  | .clo f a b, c, hb, h => by
    simp only [PRep, PVal.und] at h hb ⊢
    obtain ⟨x, y, e, h1, h2⟩ := h
    exact ⟨x, y, e, PRepL.keep hk hO hφ a x hb.1 h1, PRepL.keep hk hO hφ b y hb.2 h2⟩
  | .ifc t p, c, hb, h => by
    simp only [PRep, PVal.und] at h hb ⊢
    obtain ⟨x, e, h⟩ := h
    exact ⟨x, e, PRep.keep hk hO hφ p x hb h⟩
  | .gd b p, c, hb, h => by
    simp only [PRep, PVal.und] at h hb ⊢
    exact ⟨fun e => PRep.keep hk hO hφ p c (hb e) (h.1 e), h.2⟩
  | .dead, _, _, _ => by simp only [PRep]
theorem PRepL.keep (hk : Keeps O w w') (hO : ∀ b, b < w.heap.size → O' b → O b) (hφ : ∀ id v, n id v → φ' id v = φ id v) : ∀ (ps : List PVal) (cs : List Value), undL n ps → PRepL w O φ ps cs → PRepL w' O' φ' ps cs
  | [], cs, _, h => by simpa only [PRepL] using h
  | p :: ps, cs, hb, h => by
    simp only [PRepL, undL] at h hb ⊢
    obtain ⟨c, cs', e, h1, h2⟩ := h
    exact ⟨c, cs', e, PRep.keep hk hO hφ p c hb.1 h1, PRepL.keep hk hO hφ ps cs' hb.2 h2⟩
end
end

theorem PRepL.length {w : World} {O : Nat → Prop} {φ : Nat → Nat → Option (Nat × Nat)} : ∀ {ps : List PVal} {cs : List Value}, PRepL w O φ ps cs → cs.length = ps.length
  | [], cs, h => by simp only [PRepL] at h; simp [h]
  | p :: ps, cs, h => by
    simp only [PRepL] at h
    obtain ⟨c, cs', rfl, _, h⟩ := h
    simp [PRepL.length h]

theorem PRepL.get {w : World} {O : Nat → Prop} {φ : Nat → Nat → Option (Nat × Nat)} : ∀ {ps : List PVal} {cs : List Value}, PRepL w O φ ps cs → ∀ {i : Nat} {p : PVal}, ps[i]? = some p → ∃ c, cs[i]? = some c ∧ PRep w O φ p c
  | [], cs, h, i, p, hi => by simp at hi
  | x :: ps, cs, h, i, p, hi => by
    simp only [PRepL] at h
    obtain ⟨c, cs', rfl, h1, h2⟩ := h
    cases i with
    | zero => simp at hi; subst hi; exact ⟨c, by simp, h1⟩
    | succ i => simpa using PRepL.get h2 (by simpa using hi)

theorem PRepL.append {w : World} {O : Nat → Prop} {φ : Nat → Nat → Option (Nat × Nat)} : ∀ {ps qs : List PVal} {cs xs : List Value}, PRepL w O φ ps cs → PRepL w O φ qs xs → PRepL w O φ (ps ++ qs) (cs ++ xs)
  | [], qs, cs, xs, h, h' => by simp only [PRepL] at h; subst h; simpa using h'
  | p :: ps, qs, cs, xs, h, h' => by
    simp only [PRepL] at h
    obtain ⟨c, cs', rfl, h1, h2⟩ := h
    simp only [List.cons_append, PRepL]
    exact ⟨c, cs' ++ xs, rfl, h1, PRepL.append h2 h'⟩

theorem PRepL.take {w : World} {O : Nat → Prop} {φ : Nat → Nat → Option (Nat × Nat)} : ∀ {ps : List PVal} {cs : List Value}, PRepL w O φ ps cs → ∀ n, PRepL w O φ (ps.take n) (cs.take n)
  | [], cs, h, n => by simp only [PRepL] at h; subst h; simp [PRepL]
  | p :: ps, cs, h, n => by
    simp only [PRepL] at h
    obtain ⟨c, cs', rfl, h1, h2⟩ := h
    cases n with
    | zero => simp [PRepL]
    | succ n => simp only [List.take_succ_cons, PRepL]; exact ⟨c, _, rfl, h1, PRepL.take h2 n⟩

theorem PRepL.drop {w : World} {O : Nat → Prop} {φ : Nat → Nat → Option (Nat × Nat)} : ∀ {ps : List PVal} {cs : List Value}, PRepL w O φ ps cs → ∀ n, PRepL w O φ (ps.drop n) (cs.drop n)
  | [], cs, h, n => by simp only [PRepL] at h; subst h; simp [PRepL]
  | p :: ps, cs, h, n => by
    cases n with
    | zero => simpa using h
    | succ n =>
      simp only [PRepL] at h
      obtain ⟨c, cs', rfl, h1, h2⟩ := h
      simpa using PRepL.drop h2 n

theorem PRepL.ds {w : World} {O : Nat → Prop} {φ : Nat → Nat → Option (Nat × Nat)} : ∀ {ds : List D} {cs : List Value}, DRepL w O ds cs → PRepL w O φ (ds.map .d) cs
  | [], cs, h => by simp only [DRepL] at h; subst h; simp [PRepL]
  | d :: ds, cs, h => by
    simp only [DRepL] at h
    obtain ⟨c, cs', rfl, h1, h2⟩ := h
    simp only [List.map_cons, PRepL, PRep]
    exact ⟨c, cs', rfl, h1, PRepL.ds h2⟩

theorem undL_ds (n : Nat → Nat → Prop) : ∀ ds : List D, undL n (ds.map .d)
  | [] => by simp [undL]
  | d :: ds => by simp only [List.map_cons, undL, PVal.und]; exact ⟨trivial, undL_ds n ds⟩

theorem undL_get {n : Nat → Nat → Prop} : ∀ {ps : List PVal} {i : Nat} {p : PVal}, undL n ps → ps[i]? = some p → p.und n
  | [], i, p, h, hi => by simp at hi
  | x :: ps, i, p, h, hi => by
    simp only [undL] at h
    cases i with
    | zero => simp at hi; subst hi; exact h.1
    | succ i => exact undL_get h.2 (by simpa using hi)

theorem undL_append {n : Nat → Nat → Prop} : ∀ {ps qs : List PVal}, undL n ps → undL n qs → undL n (ps ++ qs)
  | [], qs, _, h => by simpa using h
  | p :: ps, qs, h, h' => by simp only [List.cons_append, undL] at h ⊢; exact ⟨h.1, undL_append h.2 h'⟩

theorem undL_take {n : Nat → Nat → Prop} : ∀ {ps : List PVal}, undL n ps → ∀ k, undL n (ps.take k)
  | [], h, k => by simp [undL]
  | p :: ps, h, 0 => by simp [undL]
  | p :: ps, h, k + 1 => by simp only [List.take_succ_cons, undL] at h ⊢; exact ⟨h.1, undL_take h.2 k⟩

theorem undL_drop {n : Nat → Nat → Prop} : ∀ {ps : List PVal}, undL n ps → ∀ k, undL n (ps.drop k)
  | [], h, k => by simp [undL]
  | p :: ps, h, 0 => by simpa using h
  | p :: ps, h, k + 1 => by simp only [undL] at h; simpa using undL_drop h.2 k

/-- The cells of what a frame holds, where they are told. -/
def PVal.cells : PVal → List PVal
  | .agg cs => cs
  | .d x => x.cells.map .d
  | x => [x]

theorem PRep.cells {w : World} {O : Nat → Prop} {φ : Nat → Nat → Option (Nat × Nat)} {p : PVal} {c : Value} (hg : ∀ b q, p ≠ .gd b q) (hd : p ≠ .dead) (h : PRep w O φ p c) : PRepL w O φ p.cells c.cells.toList := by
  cases p with
  | d x => simp only [PRep] at h; exact PRepL.ds h.cells
  | agg ds => simp only [PRep] at h; obtain ⟨cs, rfl, h⟩ := h; simpa [PVal.cells, Value.cells] using h
  | gd b q => exact absurd rfl (hg b q)
  | dead => exact absurd rfl hd
  | tup ds => have h' := h; simp only [PRep] at h; obtain ⟨cs, rfl, _⟩ := h; simp only [PVal.cells, Value.cells, PRepL]; exact ⟨_, [], rfl, h', rfl⟩
  | ref id k => have h' := h; simp only [PRep] at h; obtain ⟨b, _, _, rfl⟩ := h; simp only [PVal.cells, Value.cells, PRepL]; exact ⟨_, [], rfl, h', rfl⟩
  | refE id ver s i k => have h' := h; simp only [PRep] at h; obtain ⟨b, _, _, rfl⟩ := h; simp only [PVal.cells, Value.cells, PRepL]; exact ⟨_, [], rfl, h', rfl⟩
  | own id ver s off len =>
    have h' := h; simp only [PRep] at h
    rcases h with ⟨_, _, _, rfl⟩ | ⟨b, n, ad, _, _, rfl, _⟩ <;> (simp only [PVal.cells, Value.cells, PRepL]; exact ⟨_, [], rfl, h', rfl⟩)
  | mp id => have h' := h; simp only [PRep] at h; obtain ⟨b, _, _, rfl⟩ := h; simp only [PVal.cells, Value.cells, PRepL]; exact ⟨_, [], rfl, h', rfl⟩
  | clo f a b => have h' := h; simp only [PRep] at h; obtain ⟨x, y, rfl, _⟩ := h; simp only [PVal.cells, Value.cells, PRepL]; exact ⟨_, [], rfl, h', rfl⟩
  | ifc t p => have h' := h; simp only [PRep] at h; obtain ⟨x, rfl, _⟩ := h; simp only [PVal.cells, Value.cells, PRepL]; exact ⟨_, [], rfl, h', rfl⟩

/-! ### A frame's state -/

structure St where
  tmps : List (Nat × PVal)
  heap : List (Nat × PObj)
  next : Nat

/-- A row of pairs, asked by its first. -/
def find {α : Type} (k : Nat) : List (Nat × α) → Option α
  | [] => none
  | (j, x) :: l => if k = j then some x else find k l

/-- The pair of this number in its place, or ahead. -/
def upd {α : Type} (k : Nat) (x : α) : List (Nat × α) → List (Nat × α)
  | [] => [(k, x)]
  | (j, y) :: l => if k = j then (k, x) :: l else (j, y) :: upd k x l

theorem find_upd_same {α : Type} (k : Nat) (x : α) : ∀ l, find k (upd k x l) = some x
  | [] => by simp [upd, find]
  | (j, y) :: l => by
    simp only [upd]
    split
    · simp [find]
    · rename_i h; simp [find, h, find_upd_same k x l]

theorem find_upd_other {α : Type} {k k' : Nat} (h : k' ≠ k) (x : α) : ∀ l, find k' (upd k x l) = find k' l
  | [] => by simp [upd, find, h]
  | (j, y) :: l => by
    simp only [upd]
    split
    · rename_i e; subst e; simp [find, h]
    · simp only [find]; split
      · rfl
      · exact find_upd_other h x l

/-- The pairs but those of this number. -/
def del {α : Type} (k : Nat) : List (Nat × α) → List (Nat × α)
  | [] => []
  | (j, y) :: l => if k = j then del k l else (j, y) :: del k l

theorem find_del_same {α : Type} (k : Nat) : ∀ l : List (Nat × α), find k (del k l) = none
  | [] => by simp [del, find]
  | (j, y) :: l => by
    simp only [del]
    split
    · exact find_del_same k l
    · rename_i h; simp [find, h, find_del_same k l]

theorem find_del_other {α : Type} {k k' : Nat} (h : k' ≠ k) : ∀ l : List (Nat × α), find k' (del k l) = find k' l
  | [] => by simp [del]
  | (j, y) :: l => by
    simp only [del]
    split
    · rename_i e; subst e; rw [find_del_other h l]; simp [find, h]
    · simp only [find]; split
      · rfl
      · exact find_del_other h l

/-- In which block an object lies. -/
def blk (φ : Nat → Nat → Option (Nat × Nat)) (id : Nat) : PObj → Option Nat
  | .arr _ _ ver _ _ => (φ id ver).map (·.1)
  | _ => (φ id 0).map (·.1)

def PObj.und (n : Nat → Nat → Prop) : PObj → Prop
  | .box ps => undL n ps
  | _ => True

/-- The blocks of a frame's own objects. -/
def Owned (φ : Nat → Nat → Option (Nat × Nat)) (h : List (Nat × PObj)) (b : Nat) : Prop := ∃ id o, find id h = some o ∧ blk φ id o = some b

def ORep (w : World) (O : Nat → Prop) (φ : Nat → Nat → Option (Nat × Nat)) (id : Nat) : PObj → Prop
  | .box ps => ∃ (b n : Nat) (cs : List Value) (ty : TypeId), φ id 0 = some (b, n) ∧ w.heap[b]? = some (.cells cs.toArray ty (0, 0)) ∧ PRepL w O φ ps cs
  | .arr e s ver room els => (φ id ver = none ∧ els = [] ∧ (∀ n, room = some n → n = 0)) ∨
      ∃ (b n : Nat) (cs : List Value), φ id ver = some (b, n) ∧ els.length ≤ n ∧ n ≤ maxLen ∧ (∀ m, room = some m → m = n) ∧ w.heap[b]? = some (.cells cs.toArray e (0, 0)) ∧ cs.length = n * s ∧ DRepE w O b s els 0
  | .map es => ∃ (b n : Nat) (arr : Array MapEntry) (clock : Nat), φ id 0 = some (b, n) ∧ w.heap[b]? = some (.map arr clock) ∧ DRepL w O (es.map (·.1)) (arr.toList.map (·.key)) ∧ DRepL w O (es.map (·.2)) (arr.toList.map (·.val))

/-- Its version. -/
def PObj.ver : PObj → Nat
  | .arr _ _ ver _ _ => ver
  | _ => 0

/-- What a call began with: its world, which blocks may change, and which are another's. -/
structure Env where
  w0 : World
  pass : Nat → Prop
  out : Nat → Prop
  apart : ∀ b, pass b → ¬ out b
  under : ∀ b, out b → b < w0.heap.size

/-- The blocks in which no data lies: another's, and the frame's own. -/
def Held (E : Env) (φ : Nat → Nat → Option (Nat × Nat)) (h : List (Nat × PObj)) (b : Nat) : Prop := E.out b ∨ Owned φ h b

/-- A frame and a world are a state; S: the names that are in use. -/
structure Rst (E : Env) (S : Nat → Nat → Prop) (φ : Nat → Nat → Option (Nat × Nat)) (st : St) (a : Act) (w : World) : Prop where
  os : w.os = E.w0.os
  tape : w.tape = E.w0.tape
  output : w.output = E.w0.output
  size : E.w0.heap.size ≤ w.heap.size
  old : ∀ b, b < E.w0.heap.size → ¬ E.pass b → w.heap[b]? = E.w0.heap[b]?
  defers : a.defers = []
  tmps : ∀ t p, find t st.tmps = some p → p.und S ∧ PRep w (Held E φ st.heap) φ p (a.tmps.getD t undef)
  objs : ∀ id o, find id st.heap = some o → S id o.ver ∧ (∀ v, S id v → v ≤ o.ver) ∧ o.und S ∧ (∀ b, blk φ id o = some b → b < w.heap.size ∧ (E.w0.heap.size ≤ b ∨ E.pass b)) ∧ ORep w (Held E φ st.heap) φ id o
  inj : ∀ id id' o o' b, find id st.heap = some o → find id' st.heap = some o' → blk φ id o = some b → blk φ id' o' = some b → id = id'

end Go.Proofs.Ytdodgbhodkcckaa.Pv
