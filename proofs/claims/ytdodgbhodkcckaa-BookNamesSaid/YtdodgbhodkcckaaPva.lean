/- Plain data and how a world holds it: a pure reading of memory, in which what is shared is never written. No program is in sight here. -/
import Derived.Orders
import Derived.Below
import Derived.Laws.AppendOwn
import Derived.Laws.CopyOwn
import Derived.Laws.StructEq
import Derived.Laws.MakeOwn
import Derived.KernelRfl
set_option linter.unusedVariables false
set_option linter.unusedSimpArgs false
set_option autoImplicit false
namespace Go.Proofs.Ytdodgbhodkcckaa.Pv
open Go

/-- Data. A slice: the cells of an element, and the elements. A pointer: the cells from there on, which stay. -/
inductive D where
  | v (x : Value)
  | agg (cs : List D)
  | tup (cs : List D)
  | slc (s : Nat) (els : List D)
  | ifc (t : Nat) (p : D)
  | fn (f : Fn) (a b : List D)
  | ptr (cs : List D)

instance : Inhabited D := ⟨.v (.tuple #[])⟩

/-- The cells from an address on. -/
def CellsAt (w : World) (b off : Nat) (cs : List Value) : Prop := ∀ j (h : j < cs.length), w.cell? ⟨b, off + j, none⟩ = some cs[j]

mutual
/-- What data a value is, in a world; none of it lies in a block of which O speaks. -/
def DRep (w : World) (O : Nat → Prop) : D → Value → Prop
  | .v x, c => c = x
  | .agg ds, c => ∃ cs : List Value, c = .agg cs.toArray ∧ DRepL w O ds cs
  | .tup ds, c => ∃ cs : List Value, c = .tuple cs.toArray ∧ DRepL w O ds cs
  | .slc s es, c => ∃ a cap, c = .slice a es.length cap ∧ es.length ≤ cap ∧
      (es = [] ∨ ∃ b off, a = some ⟨b, off, none⟩ ∧ ¬ O b ∧ b < w.heap.size ∧ DRepE w O b s es off)
  | .ifc t p, c => ∃ x, c = .iface t x ∧ DRep w O p x
  | .fn f a b, c => ∃ x y : List Value, c = .func f x.toArray y.toArray ∧ DRepL w O a x ∧ DRepL w O b y
  | .ptr ds, c => ∃ b off cs, c = .pointer (some ⟨b, off, none⟩) ∧ ¬ O b ∧ b < w.heap.size ∧ DRepL w O ds cs ∧ CellsAt w b off cs
def DRepL (w : World) (O : Nat → Prop) : List D → List Value → Prop
  | [], cs => cs = []
  | d :: ds, cs => ∃ c cs', cs = c :: cs' ∧ DRep w O d c ∧ DRepL w O ds cs'
/-- Elements, one behind the other, in block b from a place on. -/
def DRepE (w : World) (O : Nat → Prop) (b s : Nat) : List D → Nat → Prop
  | [], _ => True
  | e :: es, off => (∃ c, DRep w O e c ∧ c.cells.size = s ∧ CellsAt w b off c.cells.toList) ∧ DRepE w O b s es (off + s)
end

/-- What one world keeps of another one: all blocks of which O doesn't speak. -/
structure Keeps (O : Nat → Prop) (w w' : World) : Prop where
  size : w.heap.size ≤ w'.heap.size
  block : ∀ b, b < w.heap.size → ¬ O b → w'.heap[b]? = w.heap[b]?

theorem CellsAt.keep {w w' : World} {b off : Nat} {cs : List Value} (h : CellsAt w b off cs) (hk : w'.heap[b]? = w.heap[b]?) : CellsAt w' b off cs :=
  fun j hj => by rw [← h j hj]; exact World.cell?_of_block hk

section
variable {w w' : World} {O O' : Nat → Prop}
mutual
theorem DRep.keep (hk : Keeps O w w') (hO : ∀ b, b < w.heap.size → O' b → O b) : ∀ (d : D) (c : Value), DRep w O d c → DRep w' O' d c
  | .v x, c, h => by simpa only [DRep] using h
  | .agg ds, c, h => by
    simp only [DRep] at h ⊢
    obtain ⟨cs, e, h⟩ := h
    exact ⟨cs, e, DRepL.keep hk hO ds cs h⟩
  | .tup ds, c, h => by
    simp only [DRep] at h ⊢
    obtain ⟨cs, e, h⟩ := h
    exact ⟨cs, e, DRepL.keep hk hO ds cs h⟩
  | .slc s es, c, h => by
    simp only [DRep] at h ⊢
    obtain ⟨a, cap, e, hc, h⟩ := h
    refine ⟨a, cap, e, hc, h.imp id ?_⟩
    rintro ⟨b, off, ea, hb, hlt, hE⟩
    exact ⟨b, off, ea, fun ho => hb (hO b hlt ho), Nat.lt_of_lt_of_le hlt hk.size, DRepE.keep hk hO (hk.block b hlt hb) es off hE⟩
  | .ifc t p, c, h => by
    simp only [DRep] at h ⊢
    obtain ⟨x, e, h⟩ := h
    exact ⟨x, e, DRep.keep hk hO p x h⟩
  | .fn f a b, c, h => by
    simp only [DRep] at h ⊢
    obtain ⟨x, y, e, h1, h2⟩ := h
    exact ⟨x, y, e, DRepL.keep hk hO a x h1, DRepL.keep hk hO b y h2⟩
  | .ptr ds, c, h => by
    simp only [DRep] at h ⊢
    obtain ⟨b, off, cs, e, h1, h2, h3, h4⟩ := h
    exact ⟨b, off, cs, e, fun ho => h1 (hO b h2 ho), Nat.lt_of_lt_of_le h2 hk.size, DRepL.keep hk hO ds cs h3, h4.keep (hk.block b h2 h1)⟩
theorem DRepL.keep (hk : Keeps O w w') (hO : ∀ b, b < w.heap.size → O' b → O b) : ∀ (ds : List D) (cs : List Value), DRepL w O ds cs → DRepL w' O' ds cs
  | [], cs, h => by simpa only [DRepL] using h
  | d :: ds, cs, h => by
    simp only [DRepL] at h ⊢
    obtain ⟨c, cs', e, h1, h2⟩ := h
    exact ⟨c, cs', e, DRep.keep hk hO d c h1, DRepL.keep hk hO ds cs' h2⟩
theorem DRepE.keep (hk : Keeps O w w') (hO : ∀ b, b < w.heap.size → O' b → O b) {b s : Nat} (hb : w'.heap[b]? = w.heap[b]?) : ∀ (es : List D) (off : Nat), DRepE w O b s es off → DRepE w' O' b s es off
  | [], _, _ => by simp only [DRepE]
  | e :: es, off, h => by
    simp only [DRepE] at h ⊢
    obtain ⟨⟨c, h1, h2, h3⟩, h4⟩ := h
    exact ⟨⟨c, DRep.keep hk hO e c h1, h2, h3.keep hb⟩, DRepE.keep hk hO hb es (off + s) h4⟩
end
end

theorem DRepL.length {w : World} {O : Nat → Prop} : ∀ {ds : List D} {cs : List Value}, DRepL w O ds cs → cs.length = ds.length
  | [], cs, h => by simp only [DRepL] at h; simp [h]
  | d :: ds, cs, h => by
    simp only [DRepL] at h
    obtain ⟨c, cs', rfl, _, h⟩ := h
    simp [DRepL.length h]

theorem DRepL.get {w : World} {O : Nat → Prop} : ∀ {ds : List D} {cs : List Value}, DRepL w O ds cs → ∀ {i : Nat} {d : D}, ds[i]? = some d → ∃ c, cs[i]? = some c ∧ DRep w O d c
  | [], cs, h, i, d, hi => by simp at hi
  | x :: ds, cs, h, i, d, hi => by
    simp only [DRepL] at h
    obtain ⟨c, cs', rfl, h1, h2⟩ := h
    cases i with
    | zero => simp at hi; subst hi; exact ⟨c, by simp, h1⟩
    | succ i => simpa using DRepL.get h2 (by simpa using hi)

theorem DRepL.append {w : World} {O : Nat → Prop} : ∀ {ds es : List D} {cs xs : List Value}, DRepL w O ds cs → DRepL w O es xs → DRepL w O (ds ++ es) (cs ++ xs)
  | [], es, cs, xs, h, h' => by simp only [DRepL] at h; subst h; simpa using h'
  | d :: ds, es, cs, xs, h, h' => by
    simp only [DRepL] at h
    obtain ⟨c, cs', rfl, h1, h2⟩ := h
    simp only [List.cons_append, DRepL]
    exact ⟨c, cs' ++ xs, rfl, h1, DRepL.append h2 h'⟩

theorem DRepL.take {w : World} {O : Nat → Prop} : ∀ {ds : List D} {cs : List Value}, DRepL w O ds cs → ∀ n, DRepL w O (ds.take n) (cs.take n)
  | [], cs, h, n => by simp only [DRepL] at h; subst h; simp [DRepL]
  | d :: ds, cs, h, n => by
    simp only [DRepL] at h
    obtain ⟨c, cs', rfl, h1, h2⟩ := h
    cases n with
    | zero => simp [DRepL]
    | succ n => simp only [List.take_succ_cons, DRepL]; exact ⟨c, _, rfl, h1, DRepL.take h2 n⟩

theorem DRepL.drop {w : World} {O : Nat → Prop} : ∀ {ds : List D} {cs : List Value}, DRepL w O ds cs → ∀ n, DRepL w O (ds.drop n) (cs.drop n)
  | [], cs, h, n => by simp only [DRepL] at h; subst h; simp [DRepL]
  | d :: ds, cs, h, n => by
    cases n with
    | zero => simpa using h
    | succ n =>
      simp only [DRepL] at h
      obtain ⟨c, cs', rfl, h1, h2⟩ := h
      simpa using DRepL.drop h2 n

/-- One element of a row. -/
theorem DRepE.get {w : World} {O : Nat → Prop} {b s : Nat} : ∀ {es : List D} {off : Nat}, DRepE w O b s es off → ∀ {i : Nat} {e : D}, es[i]? = some e →
    ∃ c, DRep w O e c ∧ c.cells.size = s ∧ CellsAt w b (off + i * s) c.cells.toList
  | [], off, h, i, e, hi => by simp at hi
  | x :: es, off, h, i, e, hi => by
    simp only [DRepE] at h
    cases i with
    | zero => simp at hi; subst hi; simpa using h.1
    | succ i =>
      have := DRepE.get h.2 (i := i) (e := e) (by simpa using hi)
      simpa [Nat.add_mul, Nat.add_assoc, Nat.add_comm s] using this

/-- A row, element by element. -/
theorem DRepE.of {w : World} {O : Nat → Prop} {b s : Nat} : ∀ {es : List D} {off : Nat}, (∀ i e, es[i]? = some e → ∃ c, DRep w O e c ∧ c.cells.size = s ∧ CellsAt w b (off + i * s) c.cells.toList) → DRepE w O b s es off
  | [], off, h => by simp only [DRepE]
  | x :: es, off, h => by
    simp only [DRepE]
    refine ⟨by simpa using h 0 x rfl, DRepE.of fun i e hi => ?_⟩
    have := h (i + 1) e (by simpa using hi)
    simpa [Nat.add_mul, Nat.add_assoc, Nat.add_comm s] using this

theorem DRepE.drop {w : World} {O : Nat → Prop} {b s off : Nat} {es : List D} (h : DRepE w O b s es off) (n : Nat) : DRepE w O b s (es.drop n) (off + n * s) :=
  DRepE.of fun i e hi => by
    have := h.get (i := n + i) (e := e) (by simpa using hi)
    simpa [Nat.add_mul, Nat.add_assoc] using this

theorem DRepE.take {w : World} {O : Nat → Prop} {b s off : Nat} {es : List D} (h : DRepE w O b s es off) (n : Nat) : DRepE w O b s (es.take n) off :=
  DRepE.of fun i e hi => h.get (by
    rw [List.getElem?_take] at hi
    split at hi
    · exact hi
    · cases hi)

theorem DRepE.append {w : World} {O : Nat → Prop} {b s off : Nat} {es fs : List D} (h : DRepE w O b s es off) (h' : DRepE w O b s fs (off + es.length * s)) : DRepE w O b s (es ++ fs) off :=
  DRepE.of fun i e hi => by
    rcases Nat.lt_or_ge i es.length with hlt | hge
    · exact h.get (by rwa [List.getElem?_append_left hlt] at hi)
    · have := h'.get (i := i - es.length) (e := e) (by rwa [List.getElem?_append_right hge] at hi)
      have e1 : off + es.length * s + (i - es.length) * s = off + i * s := by
        rw [Nat.add_assoc, ← Nat.add_mul]; congr 2; omega
      rwa [e1] at this

end Go.Proofs.Ytdodgbhodkcckaa.Pv
