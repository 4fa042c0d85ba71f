/- A part of the proof: the machine of plain values and walks of functions. -/
import Derived.Orders
import Derived.WideKeyRuns
import Derived.Below
import Derived.Laws.AppendOwn
import Derived.Laws.CopyOwn
import Derived.Laws.StructEq
import Derived.Laws.MakeOwn
import Derived.KernelRfl
section
section
set_option linter.unusedVariables false
set_option linter.unusedSimpArgs false
set_option autoImplicit false
namespace Go.Proofs.Ytdodgbhodkcckaa.Pv
open Go
inductive D where
  | v (x : Value)
  | agg (cs : List D)
  | tup (cs : List D)
  | slc (s : Nat) (els : List D)
  | ifc (t : Nat) (p : D)
  | fn (f : Fn) (a b : List D)
  | ptr (cs : List D)
instance : Inhabited D := ⟨.v (.tuple #[])⟩
def CellsAt (w : World) (b off : Nat) (cs : List Value) : Prop := ∀ j (h : j < cs.length), w.cell? ⟨b, off + j, none⟩ = some cs[j]
mutual
def DRep (w : World) (O : Nat → Prop) : D → Value → Prop
  | .v x, c => c = x
  | .agg ds, c => ∃ cs : List Value, c = .agg cs.toArray ∧ DRepL w O ds cs
  | .tup ds, c => ∃ cs : List Value, c = .tuple cs.toArray ∧ DRepL w O ds cs
  | .slc s es, c => ∃ a cap, c = .slice a es.length cap ∧ es.length ≤ cap ∧
      (es = [] ∨ ∃ b off, a = some ⟨b, off, none⟩ ∧ ¬ O b ∧ b < w.heap.size ∧ DRepE w O b s es off)
  | .ifc t p, c => ∃ x, c = .iface t x ∧ DRep w O p x
  | .fn f a b, c => ∃ x y : List Value, c = .func f x.toArray y.toArray ∧ DRepL w O a x ∧ DRepL w O b y
  | .ptr ds, c => ∃ b off cs, c = .pointer (some ⟨b, off, none⟩) ∧ ¬ O b ∧ b < w.heap.size ∧ DRepL w O ds cs ∧ CellsAt w b off cs
def DRepL (w : World) (O : Nat → Prop) : List D → List Value → Prop
  | [], cs => cs = []
  | d :: ds, cs => ∃ c cs', cs = c :: cs' ∧ DRep w O d c ∧ DRepL w O ds cs'
def DRepE (w : World) (O : Nat → Prop) (b s : Nat) : List D → Nat → Prop
  | [], _ => True
  | e :: es, off => (∃ c, DRep w O e c ∧ c.cells.size = s ∧ CellsAt w b off c.cells.toList) ∧ DRepE w O b s es (off + s)
end
structure Keeps (O : Nat → Prop) (w w' : World) : Prop where
  size : w.heap.size ≤ w'.heap.size
  block : ∀ b, b < w.heap.size → ¬ O b → w'.heap[b]? = w.heap[b]?
theorem CellsAt.keep {w w' : World} {b off : Nat} {cs : List Value} (h : CellsAt w b off cs) (hk : w'.heap[b]? = w.heap[b]?) : CellsAt w' b off cs :=
  fun j hj => by rw [← h j hj]; exact World.cell?_of_block hk
section
variable {w w' : World} {O O' : Nat → Prop}
mutual
theorem DRep.keep (hk : Keeps O w w') (hO : ∀ b, b < w.heap.size → O' b → O b) : ∀ (d : D) (c : Value), DRep w O d c → DRep w' O' d c
  | .v x, c, h => by simpa only [DRep] using h
  | .agg ds, c, h => by
    simp only [DRep] at h ⊢
    obtain ⟨cs, e, h⟩ := h
    exact ⟨cs, e, DRepL.keep hk hO ds cs h⟩
  | .tup ds, c, h => by
    simp only [DRep] at h ⊢
    obtain ⟨cs, e, h⟩ := h
    exact ⟨cs, e, DRepL.keep hk hO ds cs h⟩
  | .slc s es, c, h => by
    simp only [DRep] at h ⊢
    obtain ⟨a, cap, e, hc, h⟩ := h
    refine ⟨a, cap, e, hc, h.imp id ?_⟩
    rintro ⟨b, off, ea, hb, hlt, hE⟩
    exact ⟨b, off, ea, fun ho => hb (hO b hlt ho), Nat.lt_of_lt_of_le hlt hk.size, DRepE.keep hk hO (hk.block b hlt hb) es off hE⟩
  | .ifc t p, c, h => by
    simp only [DRep] at h ⊢
    obtain ⟨x, e, h⟩ := h
    exact ⟨x, e, DRep.keep hk hO p x h⟩
  | .fn f a b, c, h => by
    simp only [DRep] at h ⊢
    obtain ⟨x, y, e, h1, h2⟩ := h
    exact ⟨x, y, e, DRepL.keep hk hO a x h1, DRepL.keep hk hO b y h2⟩
  | .ptr ds, c, h => by
    simp only [DRep] at h ⊢
    obtain ⟨b, off, cs, e, h1, h2, h3, h4⟩ := h
    exact ⟨b, off, cs, e, fun ho => h1 (hO b h2 ho), Nat.lt_of_lt_of_le h2 hk.size, DRepL.keep hk hO ds cs h3, h4.keep (hk.block b h2 h1)⟩
theorem DRepL.keep (hk : Keeps O w w') (hO : ∀ b, b < w.heap.size → O' b → O b) : ∀ (ds : List D) (cs : List Value), DRepL w O ds cs → DRepL w' O' ds cs
  | [], cs, h => by simpa only [DRepL] using h
  | d :: ds, cs, h => by
    simp only [DRepL] at h ⊢
    obtain ⟨c, cs', e, h1, h2⟩ := h
    exact ⟨c, cs', e, DRep.keep hk hO d c h1, DRepL.keep hk hO ds cs' h2⟩
theorem DRepE.keep (hk : Keeps O w w') (hO : ∀ b, b < w.heap.size → O' b → O b) {b s : Nat} (hb : w'.heap[b]? = w.heap[b]?) : ∀ (es : List D) (off : Nat), DRepE w O b s es off → DRepE w' O' b s es off
  | [], _, _ => by simp only [DRepE]
  | e :: es, off, h => by
    simp only [DRepE] at h ⊢
    obtain ⟨⟨c, h1, h2, h3⟩, h4⟩ := h
    exact ⟨⟨c, DRep.keep hk hO e c h1, h2, h3.keep hb⟩, DRepE.keep hk hO hb es (off + s) h4⟩
end
end
theorem DRepL.length {w : World} {O : Nat → Prop} : ∀ {ds : List D} {cs : List Value}, DRepL w O ds cs → cs.length = ds.length
  | [], cs, h => by simp only [DRepL] at h; simp [h]
  | d :: ds, cs, h => by
    simp only [DRepL] at h
    obtain ⟨c, cs', rfl, _, h⟩ := h
    simp [DRepL.length h]
theorem DRepL.get {w : World} {O : Nat → Prop} : ∀ {ds : List D} {cs : List Value}, DRepL w O ds cs → ∀ {i : Nat} {d : D}, ds[i]? = some d → ∃ c, cs[i]? = some c ∧ DRep w O d c
  | [], cs, h, i, d, hi => by simp at hi
  | x :: ds, cs, h, i, d, hi => by
    simp only [DRepL] at h
    obtain ⟨c, cs', rfl, h1, h2⟩ := h
    cases i with
    | zero => simp at hi; subst hi; exact ⟨c, by simp, h1⟩
    | succ i => simpa using DRepL.get h2 (by simpa using hi)
theorem DRepL.append {w : World} {O : Nat → Prop} : ∀ {ds es : List D} {cs xs : List Value}, DRepL w O ds cs → DRepL w O es xs → DRepL w O (ds ++ es) (cs ++ xs)
  | [], es, cs, xs, h, h' => by simp only [DRepL] at h; subst h; simpa using h'
  | d :: ds, es, cs, xs, h, h' => by
    simp only [DRepL] at h
    obtain ⟨c, cs', rfl, h1, h2⟩ := h
    simp only [List.cons_append, DRepL]
    exact ⟨c, cs' ++ xs, rfl, h1, DRepL.append h2 h'⟩
theorem DRepL.take {w : World} {O : Nat → Prop} : ∀ {ds : List D} {cs : List Value}, DRepL w O ds cs → ∀ n, DRepL w O (ds.take n) (cs.take n)
  | [], cs, h, n => by simp only [DRepL] at h; subst h; simp [DRepL]
  | d :: ds, cs, h, n => by
    simp only [DRepL] at h
    obtain ⟨c, cs', rfl, h1, h2⟩ := h
    cases n with
    | zero => simp [DRepL]
    | succ n => simp only [List.take_succ_cons, DRepL]; exact ⟨c, _, rfl, h1, DRepL.take h2 n⟩
theorem DRepL.drop {w : World} {O : Nat → Prop} : ∀ {ds : List D} {cs : List Value}, DRepL w O ds cs → ∀ n, DRepL w O (ds.drop n) (cs.drop n)
  | [], cs, h, n => by simp only [DRepL] at h; subst h; simp [DRepL]
  | d :: ds, cs, h, n => by
    cases n with
    | zero => simpa using h
    | succ n =>
      simp only [DRepL] at h
      obtain ⟨c, cs', rfl, h1, h2⟩ := h
      simpa using DRepL.drop h2 n
theorem DRepE.get {w : World} {O : Nat → Prop} {b s : Nat} : ∀ {es : List D} {off : Nat}, DRepE w O b s es off → ∀ {i : Nat} {e : D}, es[i]? = some e →
    ∃ c, DRep w O e c ∧ c.cells.size = s ∧ CellsAt w b (off + i * s) c.cells.toList
  | [], off, h, i, e, hi => by simp at hi
  | x :: es, off, h, i, e, hi => by
    simp only [DRepE] at h
    cases i with
    | zero => simp at hi; subst hi; simpa using h.1
    | succ i =>
      have := DRepE.get h.2 (i := i) (e := e) (by simpa using hi)
      simpa [Nat.add_mul, Nat.add_assoc, Nat.add_comm s] using this
theorem DRepE.of {w : World} {O : Nat → Prop} {b s : Nat} : ∀ {es : List D} {off : Nat}, (∀ i e, es[i]? = some e → ∃ c, DRep w O e c ∧ c.cells.size = s ∧ CellsAt w b (off + i * s) c.cells.toList) → DRepE w O b s es off
  | [], off, h => by simp only [DRepE]
  | x :: es, off, h => by
    simp only [DRepE]
    refine ⟨by simpa using h 0 x rfl, DRepE.of fun i e hi => ?_⟩
    have := h (i + 1) e (by simpa using hi)
    simpa [Nat.add_mul, Nat.add_assoc, Nat.add_comm s] using this
theorem DRepE.drop {w : World} {O : Nat → Prop} {b s off : Nat} {es : List D} (h : DRepE w O b s es off) (n : Nat) : DRepE w O b s (es.drop n) (off + n * s) :=
  DRepE.of fun i e hi => by
    have := h.get (i := n + i) (e := e) (by simpa using hi)
    simpa [Nat.add_mul, Nat.add_assoc] using this
theorem DRepE.take {w : World} {O : Nat → Prop} {b s off : Nat} {es : List D} (h : DRepE w O b s es off) (n : Nat) : DRepE w O b s (es.take n) off :=
  DRepE.of fun i e hi => h.get (by
    rw [List.getElem?_take] at hi
    split at hi
    · exact hi
    · cases hi)
theorem DRepE.append {w : World} {O : Nat → Prop} {b s off : Nat} {es fs : List D} (h : DRepE w O b s es off) (h' : DRepE w O b s fs (off + es.length * s)) : DRepE w O b s (es ++ fs) off :=
  DRepE.of fun i e hi => by
    rcases Nat.lt_or_ge i es.length with hlt | hge
    · exact h.get (by rwa [List.getElem?_append_left hlt] at hi)
    · have := h'.get (i := i - es.length) (e := e) (by rwa [List.getElem?_append_right hge] at hi)
      have e1 : off + es.length * s + (i - es.length) * s = off + i * s := by
        rw [Nat.add_assoc, ← Nat.add_mul]; congr 2; omega
      rwa [e1] at this
end Go.Proofs.Ytdodgbhodkcckaa.Pv
end
section
set_option linter.unusedVariables false
set_option linter.unusedSimpArgs false
set_option autoImplicit false
namespace Go.Proofs.Ytdodgbhodkcckaa.Pv
open Go
def D.cells : D → List D
  | .agg cs => cs
  | .v (.agg cs) => cs.toList.map .v
  | x => [x]
theorem DRepL.vs {w : World} {O : Nat → Prop} : ∀ l : List Value, DRepL w O (l.map .v) l
  | [] => by simp [DRepL]
  | x :: l => by simp only [List.map_cons, DRepL]; exact ⟨x, l, rfl, by simp [DRep], DRepL.vs l⟩
theorem DRep.cells {w : World} {O : Nat → Prop} {d : D} {c : Value} (h : DRep w O d c) : DRepL w O d.cells c.cells.toList := by
  cases d with
  | v x =>
    simp only [DRep] at h; subst h
    cases c <;> first
      | (simp only [D.cells, Value.cells, DRepL]; exact ⟨_, [], rfl, by simp [DRep], rfl⟩)
      | (simp only [D.cells, Value.cells]; exact DRepL.vs _)
  | agg ds => simp only [DRep] at h; obtain ⟨cs, rfl, h⟩ := h; simpa [D.cells, Value.cells] using h
  | tup ds => have h' := h; simp only [DRep] at h; obtain ⟨cs, rfl, _⟩ := h; simp only [D.cells, Value.cells, DRepL]; exact ⟨_, [], rfl, h', rfl⟩
  | slc s es => have h' := h; simp only [DRep] at h; obtain ⟨a, cap, rfl, _⟩ := h; simp only [D.cells, Value.cells, DRepL]; exact ⟨_, [], rfl, h', rfl⟩
  | ifc t p => have h' := h; simp only [DRep] at h; obtain ⟨x, rfl, _⟩ := h; simp only [D.cells, Value.cells, DRepL]; exact ⟨_, [], rfl, h', rfl⟩
  | fn f a b => have h' := h; simp only [DRep] at h; obtain ⟨x, y, rfl, _⟩ := h; simp only [D.cells, Value.cells, DRepL]; exact ⟨_, [], rfl, h', rfl⟩
  | ptr ds => have h' := h; simp only [DRep] at h; obtain ⟨b, off, cs, rfl, _⟩ := h; simp only [D.cells, Value.cells, DRepL]; exact ⟨_, [], rfl, h', rfl⟩
inductive PVal where
  | d (x : D)
  | agg (cs : List PVal)
  | tup (cs : List PVal)
  | ref (id k : Nat)
  | refE (id ver s i k : Nat)
  | own (id ver s off len : Nat)
  | mp (id : Nat)
  | clo (f : Fn) (a b : List PVal)
  | ifc (t : Nat) (p : PVal)
  | gd (b : Bool) (p : PVal)
  | dead
instance : Inhabited PVal := ⟨.dead⟩
inductive PObj where
  | box (cells : List PVal)
  | arr (e s ver : Nat) (room : Option Nat) (els : List D)
  | map (es : List (D × D))
  | mapg (es : List (D × D)) (born : List Nat) (clk : Nat)
  | iter (m clk : Nat) (seen : List Nat)
  | siter (s : ByteArray) (pos : Nat)
mutual
def PRep (w : World) (O : Nat → Prop) (φ : Nat → Nat → Option (Nat × Nat)) : PVal → Value → Prop
  | .d x, c => DRep w O x c
  | .agg ps, c => ∃ cs : List Value, c = .agg cs.toArray ∧ PRepL w O φ ps cs
  | .tup ps, c => ∃ cs : List Value, c = .tuple cs.toArray ∧ PRepL w O φ ps cs
  | .ref id k, c => ∃ b n, φ id 0 = some (b, n) ∧ c = .pointer (some ⟨b, k, none⟩)
  | .refE id ver s i k, c => ∃ b n, φ id ver = some (b, n) ∧ c = .pointer (some ⟨b, i * s + k, none⟩)
  | .own id ver s off len, c => (φ id ver = none ∧ off = 0 ∧ len = 0 ∧ c = .slice none 0 0) ∨
      ∃ b n ad, φ id ver = some (b, n) ∧ off + len ≤ n ∧ c = .slice ad len (n - off) ∧ (n - off = 0 ∨ ad = some ⟨b, off * s, none⟩)
  | .mp id, c => ∃ b n, φ id 0 = some (b, n) ∧ c = .map (some b)
  | .clo f a b, c => ∃ x y : List Value, c = .func f x.toArray y.toArray ∧ PRepL w O φ a x ∧ PRepL w O φ b y
  | .ifc t p, c => ∃ x, c = .iface t x ∧ PRep w O φ p x
  | .gd b p, c => (b = true → PRep w O φ p c) ∧ (b = false → c = undef)
  | .dead, _ => True
def PRepL (w : World) (O : Nat → Prop) (φ : Nat → Nat → Option (Nat × Nat)) : List PVal → List Value → Prop
  | [], cs => cs = []
  | p :: ps, cs => ∃ c cs', cs = c :: cs' ∧ PRep w O φ p c ∧ PRepL w O φ ps cs'
end
mutual
def PVal.und (n : Nat → Nat → Prop) : PVal → Prop
  | .d _ | .dead => True
  | .agg ps | .tup ps => undL n ps
  | .ref id _ | .mp id => n id 0
  | .refE id ver _ _ _ | .own id ver _ _ _ => n id ver
  | .clo _ a b => undL n a ∧ undL n b
  | .ifc _ p => PVal.und n p
  | .gd b p => b = true → PVal.und n p
def undL (n : Nat → Nat → Prop) : List PVal → Prop
  | [] => True
  | p :: ps => PVal.und n p ∧ undL n ps
end
section
variable {n n' : Nat → Nat → Prop}
mutual
theorem PVal.und_mono (hn : ∀ id v, n id v → n' id v) : ∀ p : PVal, p.und n → p.und n'
  | .d _, _ | .dead, _ => by simp only [PVal.und]
  | .agg ps, h | .tup ps, h => by simp only [PVal.und] at h ⊢; exact undL_mono hn ps h
  | .ref id _, h | .mp id, h => by simp only [PVal.und] at h ⊢; exact hn _ _ h
  | .refE id _ _ _ _, h | .own id _ _ _ _, h => by simp only [PVal.und] at h ⊢; exact hn _ _ h
  | .clo _ a b, h => by simp only [PVal.und] at h ⊢; exact ⟨undL_mono hn a h.1, undL_mono hn b h.2⟩
  | .ifc _ p, h => by simp only [PVal.und] at h ⊢; exact PVal.und_mono hn p h
  | .gd _ p, h => by simp only [PVal.und] at h ⊢; exact fun e => PVal.und_mono hn p (h e)
theorem undL_mono (hn : ∀ id v, n id v → n' id v) : ∀ ps : List PVal, undL n ps → undL n' ps
  | [], _ => by simp only [undL]
  | p :: ps, h => by simp only [undL] at h ⊢; exact ⟨PVal.und_mono hn p h.1, undL_mono hn ps h.2⟩
end
end
section
variable {w w' : World} {O O' : Nat → Prop} {φ φ' : Nat → Nat → Option (Nat × Nat)} {n : Nat → Nat → Prop}
mutual
theorem PRep.keep (hk : Keeps O w w') (hO : ∀ b, b < w.heap.size → O' b → O b) (hφ : ∀ id v, n id v → φ' id v = φ id v) : ∀ (p : PVal) (c : Value), p.und n → PRep w O φ p c → PRep w' O' φ' p c
  | .d x, c, _, h => by simp only [PRep] at h ⊢; exact DRep.keep hk hO x c h
  | .agg ps, c, hb, h => by
    simp only [PRep, PVal.und] at h hb ⊢
    obtain ⟨cs, e, h⟩ := h
    exact ⟨cs, e, PRepL.keep hk hO hφ ps cs hb h⟩
  | .tup ps, c, hb, h => by
    simp only [PRep, PVal.und] at h hb ⊢
    obtain ⟨cs, e, h⟩ := h
    exact ⟨cs, e, PRepL.keep hk hO hφ ps cs hb h⟩
  | .ref id k, c, hb, h => by simp only [PRep, PVal.und] at h hb ⊢; rw [hφ _ _ hb]; exact h
  | .refE id ver s i k, c, hb, h => by simp only [PRep, PVal.und] at h hb ⊢; rw [hφ _ _ hb]; exact h
  | .own id ver s off len, c, hb, h => by simp only [PRep, PVal.und] at h hb ⊢; rw [hφ _ _ hb]; exact h
  | .mp id, c, hb, h => by simp only [PRep, PVal.und] at h hb ⊢; rw [hφ _ _ hb]; exact h
  | .clo f a b, c, hb, h => by
    simp only [PRep, PVal.und] at h hb ⊢
    obtain ⟨x, y, e, h1, h2⟩ := h
    exact ⟨x, y, e, PRepL.keep hk hO hφ a x hb.1 h1, PRepL.keep hk hO hφ b y hb.2 h2⟩
  | .ifc t p, c, hb, h => by
    simp only [PRep, PVal.und] at h hb ⊢
    obtain ⟨x, e, h⟩ := h
    exact ⟨x, e, PRep.keep hk hO hφ p x hb h⟩
  | .gd b p, c, hb, h => by
    simp only [PRep, PVal.und] at h hb ⊢
    exact ⟨fun e => PRep.keep hk hO hφ p c (hb e) (h.1 e), h.2⟩
  | .dead, _, _, _ => by simp only [PRep]
theorem PRepL.keep (hk : Keeps O w w') (hO : ∀ b, b < w.heap.size → O' b → O b) (hφ : ∀ id v, n id v → φ' id v = φ id v) : ∀ (ps : List PVal) (cs : List Value), undL n ps → PRepL w O φ ps cs → PRepL w' O' φ' ps cs
  | [], cs, _, h => by simpa only [PRepL] using h
  | p :: ps, cs, hb, h => by
    simp only [PRepL, undL] at h hb ⊢
    obtain ⟨c, cs', e, h1, h2⟩ := h
    exact ⟨c, cs', e, PRep.keep hk hO hφ p c hb.1 h1, PRepL.keep hk hO hφ ps cs' hb.2 h2⟩
end
end
theorem PRepL.length {w : World} {O : Nat → Prop} {φ : Nat → Nat → Option (Nat × Nat)} : ∀ {ps : List PVal} {cs : List Value}, PRepL w O φ ps cs → cs.length = ps.length
  | [], cs, h => by simp only [PRepL] at h; simp [h]
  | p :: ps, cs, h => by
    simp only [PRepL] at h
    obtain ⟨c, cs', rfl, _, h⟩ := h
    simp [PRepL.length h]
theorem PRepL.get {w : World} {O : Nat → Prop} {φ : Nat → Nat → Option (Nat × Nat)} : ∀ {ps : List PVal} {cs : List Value}, PRepL w O φ ps cs → ∀ {i : Nat} {p : PVal}, ps[i]? = some p → ∃ c, cs[i]? = some c ∧ PRep w O φ p c
  | [], cs, h, i, p, hi => by simp at hi
  | x :: ps, cs, h, i, p, hi => by
    simp only [PRepL] at h
    obtain ⟨c, cs', rfl, h1, h2⟩ := h
    cases i with
    | zero => simp at hi; subst hi; exact ⟨c, by simp, h1⟩
    | succ i => simpa using PRepL.get h2 (by simpa using hi)
theorem PRepL.append {w : World} {O : Nat → Prop} {φ : Nat → Nat → Option (Nat × Nat)} : ∀ {ps qs : List PVal} {cs xs : List Value}, PRepL w O φ ps cs → PRepL w O φ qs xs → PRepL w O φ (ps ++ qs) (cs ++ xs)
  | [], qs, cs, xs, h, h' => by simp only [PRepL] at h; subst h; simpa using h'
  | p :: ps, qs, cs, xs, h, h' => by
    simp only [PRepL] at h
    obtain ⟨c, cs', rfl, h1, h2⟩ := h
    simp only [List.cons_append, PRepL]
    exact ⟨c, cs' ++ xs, rfl, h1, PRepL.append h2 h'⟩
theorem PRepL.take {w : World} {O : Nat → Prop} {φ : Nat → Nat → Option (Nat × Nat)} : ∀ {ps : List PVal} {cs : List Value}, PRepL w O φ ps cs → ∀ n, PRepL w O φ (ps.take n) (cs.take n)
  | [], cs, h, n => by simp only [PRepL] at h; subst h; simp [PRepL]
  | p :: ps, cs, h, n => by
    simp only [PRepL] at h
    obtain ⟨c, cs', rfl, h1, h2⟩ := h
    cases n with
    | zero => simp [PRepL]
    | succ n => simp only [List.take_succ_cons, PRepL]; exact ⟨c, _, rfl, h1, PRepL.take h2 n⟩
theorem PRepL.drop {w : World} {O : Nat → Prop} {φ : Nat → Nat → Option (Nat × Nat)} : ∀ {ps : List PVal} {cs : List Value}, PRepL w O φ ps cs → ∀ n, PRepL w O φ (ps.drop n) (cs.drop n)
  | [], cs, h, n => by simp only [PRepL] at h; subst h; simp [PRepL]
  | p :: ps, cs, h, n => by
    cases n with
    | zero => simpa using h
    | succ n =>
      simp only [PRepL] at h
      obtain ⟨c, cs', rfl, h1, h2⟩ := h
      simpa using PRepL.drop h2 n
theorem PRepL.ds {w : World} {O : Nat → Prop} {φ : Nat → Nat → Option (Nat × Nat)} : ∀ {ds : List D} {cs : List Value}, DRepL w O ds cs → PRepL w O φ (ds.map .d) cs
  | [], cs, h => by simp only [DRepL] at h; subst h; simp [PRepL]
  | d :: ds, cs, h => by
    simp only [DRepL] at h
    obtain ⟨c, cs', rfl, h1, h2⟩ := h
    simp only [List.map_cons, PRepL, PRep]
    exact ⟨c, cs', rfl, h1, PRepL.ds h2⟩
theorem undL_ds (n : Nat → Nat → Prop) : ∀ ds : List D, undL n (ds.map .d)
  | [] => by simp [undL]
  | d :: ds => by simp only [List.map_cons, undL, PVal.und]; exact ⟨trivial, undL_ds n ds⟩
theorem undL_get {n : Nat → Nat → Prop} : ∀ {ps : List PVal} {i : Nat} {p : PVal}, undL n ps → ps[i]? = some p → p.und n
  | [], i, p, h, hi => by simp at hi
  | x :: ps, i, p, h, hi => by
    simp only [undL] at h
    cases i with
    | zero => simp at hi; subst hi; exact h.1
    | succ i => exact undL_get h.2 (by simpa using hi)
theorem undL_append {n : Nat → Nat → Prop} : ∀ {ps qs : List PVal}, undL n ps → undL n qs → undL n (ps ++ qs)
  | [], qs, _, h => by simpa using h
  | p :: ps, qs, h, h' => by simp only [List.cons_append, undL] at h ⊢; exact ⟨h.1, undL_append h.2 h'⟩
theorem undL_take {n : Nat → Nat → Prop} : ∀ {ps : List PVal}, undL n ps → ∀ k, undL n (ps.take k)
  | [], h, k => by simp [undL]
  | p :: ps, h, 0 => by simp [undL]
  | p :: ps, h, k + 1 => by simp only [List.take_succ_cons, undL] at h ⊢; exact ⟨h.1, undL_take h.2 k⟩
theorem undL_drop {n : Nat → Nat → Prop} : ∀ {ps : List PVal}, undL n ps → ∀ k, undL n (ps.drop k)
  | [], h, k => by simp [undL]
  | p :: ps, h, 0 => by simpa using h
  | p :: ps, h, k + 1 => by simp only [undL] at h; simpa using undL_drop h.2 k
def PVal.cells : PVal → List PVal
  | .agg cs => cs
  | .d x => x.cells.map .d
  | x => [x]
theorem PRep.cells {w : World} {O : Nat → Prop} {φ : Nat → Nat → Option (Nat × Nat)} {p : PVal} {c : Value} (hg : ∀ b q, p ≠ .gd b q) (hd : p ≠ .dead) (h : PRep w O φ p c) : PRepL w O φ p.cells c.cells.toList := by
  cases p with
  | d x => simp only [PRep] at h; exact PRepL.ds h.cells
  | agg ds => simp only [PRep] at h; obtain ⟨cs, rfl, h⟩ := h; simpa [PVal.cells, Value.cells] using h
  | gd b q => exact absurd rfl (hg b q)
  | dead => exact absurd rfl hd
  | tup ds => have h' := h; simp only [PRep] at h; obtain ⟨cs, rfl, _⟩ := h; simp only [PVal.cells, Value.cells, PRepL]; exact ⟨_, [], rfl, h', rfl⟩
  | ref id k => have h' := h; simp only [PRep] at h; obtain ⟨b, _, _, rfl⟩ := h; simp only [PVal.cells, Value.cells, PRepL]; exact ⟨_, [], rfl, h', rfl⟩
  | refE id ver s i k => have h' := h; simp only [PRep] at h; obtain ⟨b, _, _, rfl⟩ := h; simp only [PVal.cells, Value.cells, PRepL]; exact ⟨_, [], rfl, h', rfl⟩
  | own id ver s off len =>
    have h' := h; simp only [PRep] at h
    rcases h with ⟨_, _, _, rfl⟩ | ⟨b, n, ad, _, _, rfl, _⟩ <;> (simp only [PVal.cells, Value.cells, PRepL]; exact ⟨_, [], rfl, h', rfl⟩)
  | mp id => have h' := h; simp only [PRep] at h; obtain ⟨b, _, _, rfl⟩ := h; simp only [PVal.cells, Value.cells, PRepL]; exact ⟨_, [], rfl, h', rfl⟩
  | clo f a b => have h' := h; simp only [PRep] at h; obtain ⟨x, y, rfl, _⟩ := h; simp only [PVal.cells, Value.cells, PRepL]; exact ⟨_, [], rfl, h', rfl⟩
  | ifc t p => have h' := h; simp only [PRep] at h; obtain ⟨x, rfl, _⟩ := h; simp only [PVal.cells, Value.cells, PRepL]; exact ⟨_, [], rfl, h', rfl⟩
structure St where
  tmps : List (Nat × PVal)
  heap : List (Nat × PObj)
  next : Nat
def find {α : Type} (k : Nat) : List (Nat × α) → Option α
  | [] => none
  | (j, x) :: l => if k = j then some x else find k l
def upd {α : Type} (k : Nat) (x : α) : List (Nat × α) → List (Nat × α)
  | [] => [(k, x)]
  | (j, y) :: l => if k = j then (k, x) :: l else (j, y) :: upd k x l
theorem find_upd_same {α : Type} (k : Nat) (x : α) : ∀ l, find k (upd k x l) = some x
  | [] => by simp [upd, find]
  | (j, y) :: l => by
    simp only [upd]
    split
    · simp [find]
    · rename_i h; simp [find, h, find_upd_same k x l]
theorem find_upd_other {α : Type} {k k' : Nat} (h : k' ≠ k) (x : α) : ∀ l, find k' (upd k x l) = find k' l
  | [] => by simp [upd, find, h]
  | (j, y) :: l => by
    simp only [upd]
    split
    · rename_i e; subst e; simp [find, h]
    · simp only [find]; split
      · rfl
      · exact find_upd_other h x l
def del {α : Type} (k : Nat) : List (Nat × α) → List (Nat × α)
  | [] => []
  | (j, y) :: l => if k = j then del k l else (j, y) :: del k l
theorem find_del_same {α : Type} (k : Nat) : ∀ l : List (Nat × α), find k (del k l) = none
  | [] => by simp [del, find]
  | (j, y) :: l => by
    simp only [del]
    split
    · exact find_del_same k l
    · rename_i h; simp [find, h, find_del_same k l]
theorem find_del_other {α : Type} {k k' : Nat} (h : k' ≠ k) : ∀ l : List (Nat × α), find k' (del k l) = find k' l
  | [] => by simp [del]
  | (j, y) :: l => by
    simp only [del]
    split
    · rename_i e; subst e; rw [find_del_other h l]; simp [find, h]
    · simp only [find]; split
      · rfl
      · exact find_del_other h l
def blk (φ : Nat → Nat → Option (Nat × Nat)) (id : Nat) : PObj → Option Nat
  | .arr _ _ ver _ _ => (φ id ver).map (·.1)
  | _ => (φ id 0).map (·.1)
def PObj.und (n : Nat → Nat → Prop) : PObj → Prop
  | .box ps => undL n ps
  | .iter m _ _ => n m 0
  | _ => True
def Owned (φ : Nat → Nat → Option (Nat × Nat)) (h : List (Nat × PObj)) (b : Nat) : Prop := ∃ id o, find id h = some o ∧ blk φ id o = some b
def ORep (w : World) (O : Nat → Prop) (φ : Nat → Nat → Option (Nat × Nat)) (id : Nat) : PObj → Prop
  | .box ps => ∃ (b n : Nat) (cs : List Value) (ty : TypeId), φ id 0 = some (b, n) ∧ w.heap[b]? = some (.cells cs.toArray ty (0, 0)) ∧ PRepL w O φ ps cs
  | .arr e s ver room els => (φ id ver = none ∧ els = [] ∧ (∀ n, room = some n → n = 0)) ∨
      ∃ (b n : Nat) (cs : List Value), φ id ver = some (b, n) ∧ els.length ≤ n ∧ n ≤ maxLen ∧ (∀ m, room = some m → m = n) ∧ w.heap[b]? = some (.cells cs.toArray e (0, 0)) ∧ cs.length = n * s ∧ DRepE w O b s els 0
  | .map es => ∃ (b n : Nat) (arr : Array MapEntry) (clock : Nat), φ id 0 = some (b, n) ∧ w.heap[b]? = some (.map arr clock) ∧ DRepL w O (es.map (·.1)) (arr.toList.map (·.key)) ∧ DRepL w O (es.map (·.2)) (arr.toList.map (·.val)) ∧ ∀ x ∈ arr.toList, x.born < clock
  | .mapg es born clk => ∃ (b n : Nat) (arr : Array MapEntry), φ id 0 = some (b, n) ∧ w.heap[b]? = some (.map arr clk) ∧ DRepL w O (es.map (·.1)) (arr.toList.map (·.key)) ∧ DRepL w O (es.map (·.2)) (arr.toList.map (·.val)) ∧ (∀ x ∈ arr.toList, x.born < clk) ∧ arr.toList.map (·.born) = born
  | .iter m clk seen => ∃ (b n bm nm : Nat), φ id 0 = some (b, n) ∧ φ m 0 = some (bm, nm) ∧ w.heap[b]? = some (.mapIter (some bm) clk seen.reverse.toArray clk)
  | .siter s pos => ∃ (b n : Nat), φ id 0 = some (b, n) ∧ w.heap[b]? = some (.stringIter s pos)
def PObj.ver : PObj → Nat
  | .arr _ _ ver _ _ => ver
  | _ => 0
structure Env where
  w0 : World
  pass : Nat → Prop
  out : Nat → Prop
  apart : ∀ b, pass b → ¬ out b
  under : ∀ b, out b → b < w0.heap.size
def Held (E : Env) (φ : Nat → Nat → Option (Nat × Nat)) (h : List (Nat × PObj)) (b : Nat) : Prop := E.out b ∨ Owned φ h b
structure Rst (E : Env) (S : Nat → Nat → Prop) (φ : Nat → Nat → Option (Nat × Nat)) (st : St) (a : Act) (w : World) : Prop where
  os : w.os = E.w0.os
  tape : w.tape = E.w0.tape
  output : w.output = E.w0.output
  size : E.w0.heap.size ≤ w.heap.size
  old : ∀ b, b < E.w0.heap.size → ¬ E.pass b → w.heap[b]? = E.w0.heap[b]?
  defers : a.defers = []
  tmps : ∀ t p, find t st.tmps = some p → p.und S ∧ PRep w (Held E φ st.heap) φ p (a.tmps.getD t undef)
  objs : ∀ id o, find id st.heap = some o → S id o.ver ∧ (∀ v, S id v → v ≤ o.ver) ∧ o.und S ∧ (∀ b, blk φ id o = some b → b < w.heap.size ∧ (E.w0.heap.size ≤ b ∨ E.pass b)) ∧ ORep w (Held E φ st.heap) φ id o
  inj : ∀ id id' o o' b, find id st.heap = some o → find id' st.heap = some o' → blk φ id o = some b → blk φ id' o' = some b → id = id'
end Go.Proofs.Ytdodgbhodkcckaa.Pv
end
section
set_option linter.unusedVariables false
set_option linter.unusedSimpArgs false
set_option autoImplicit false
namespace Go.Proofs.Ytdodgbhodkcckaa.Pv
open Go
inductive TK where
  | int (k : IntKind) | bool | string | struct (fs : List (Nat × Nat × Bool)) | array (n e : Nat) | slice (e : Nat) | ptr (e : Nat) | map (k e : Nat) | func | iface | other
def TK.isAgg : TK → Bool
  | .struct _ | .array _ _ => true
  | _ => false
def TK.known : TK → Bool
  | .other => false
  | _ => true
structure TI where
  kind : TK
  size : Nat
  bytes : Nat
  zero : Value
def aggOf (P : Program) (t : Nat) : Bool := match P.underlying t with
  | some (.struct _) | some (.array _ _) => true
  | _ => false
def FieldsOK (P : Program) : List (Nat × Nat × Bool) → List Field → Prop
  | [], [] => True
  | (o, s, g) :: fs, f :: gs => f.offset = o ∧ (P.info? f.type).map (·.size) = some s ∧ (P.underlying f.type).isSome = true ∧ aggOf P f.type = g ∧ FieldsOK P fs gs
  | _, _ => False
def DescOK (P : Program) (t : Nat) : TK → Prop
  | .int k => P.underlying t = some (.int k)
  | .bool => P.underlying t = some .bool
  | .string => P.underlying t = some .string
  | .struct fs => ∃ fields : Array Field, P.underlying t = some (.struct fields) ∧ FieldsOK P fs fields.toList
  | .array n e => P.underlying t = some (.array n e)
  | .slice e => P.underlying t = some (.slice e)
  | .ptr e => P.underlying t = some (.pointer e)
  | .map k e => P.underlying t = some (.map k e)
  | .func => ∃ a b c, P.underlying t = some (.func a b c)
  | .iface => ∃ ms, P.underlying t = some (.interface ms)
  | .other => True
structure TOK (P : Program) (t : Nat) (i : TI) : Prop where
  info : ∃ f, P.info? t = some f ∧ f.size = i.size ∧ f.bytes = i.bytes ∧ f.zero = some i.zero
  zsize : i.zero.cells.size = i.size
  desc : DescOK P t i.kind
def TbOK (P : Program) (T : Nat → Option TI) : Prop := ∀ t i, T t = some i → TOK P t i
def kindOf (T : Nat → Option TI) (t : Nat) : Option TK := (T t).map TI.kind
def asInt : PVal → Option (IntKind × Int)
  | .d (.v (.int k n)) => some (k, n)
  | _ => none
def asBool : PVal → Option Bool
  | .d (.v (.bool b)) => some b
  | _ => none
def asStr : PVal → Option ByteArray
  | .d (.v (.string s)) => some s
  | _ => none
def asSlc (s : Nat) : PVal → Option (List D)
  | .d (.slc s' els) => if s' = s then some els else none
  | .d (.v (.slice _ 0 _)) => some []
  | _ => none
abbrev pint (k : IntKind) (n : Int) : PVal := .d (.v (.int k n))
abbrev pbool (b : Bool) : PVal := .d (.v (.bool b))
abbrev pstr (s : ByteArray) : PVal := .d (.v (.string s))
abbrev pnil : PVal := .d (.v (.slice none 0 0))
def D.one : D → Bool
  | .agg _ | .tup _ | .v (.agg _) | .v (.tuple _) => false
  | _ => true
def PVal.one : PVal → Bool
  | .d x => x.one
  | .agg _ | .tup _ | .gd _ _ | .dead => false
  | _ => true
def splice {α : Type} (cs : List α) (o : Nat) (ps : List α) : List α := cs.take o ++ ps ++ cs.drop (o + ps.length)
def ofCells (n : Nat) (agg : Bool) (cells : List PVal) : Option PVal :=
  if agg then (if n ≤ cells.length then some (.agg (cells.take n)) else none) else cells.head?
def D.withCells (e : D) (cells : List D) : D := match e with
  | .agg _ | .v (.agg _) => .agg cells
  | _ => cells.headD e
def dataL : List PVal → Option (List D)
  | [] => some []
  | p :: l => match p, dataL l with
    | .d x, some ds => some (x :: ds)
    | _, _ => none
mutual
def PVal.toD (h : List (Nat × PObj)) : PVal → Option D
  | .d x => some x
  | .agg ps => (toDL h ps).map .agg
  | .tup ps => (toDL h ps).map .tup
  | .own id ver s off len => match find id h with
    | some (.arr _ s' ver' _ els) => if s = s' ∧ ver = ver' ∧ off + len ≤ els.length then some (.slc s ((els.drop off).take len)) else none
    | _ => none
  | .ref id k => match find id h with
    | some (.box cells) => (dataL cells).map fun ds => .ptr (ds.drop k)
    | _ => none
  | .clo f a b => match toDL h a, toDL h b with
    | some x, some y => some (.fn f x y)
    | _, _ => none
  | .ifc t p => (PVal.toD h p).map (.ifc t)
  | _ => none
def toDL (h : List (Nat × PObj)) : List PVal → Option (List D)
  | [] => some []
  | p :: ps => match PVal.toD h p, toDL h ps with
    | some d, some ds => some (d :: ds)
    | _, _ => none
end
def intOp (op : BinOp) (k k' : IntKind) (a b : Int) : Option (Value × Prop) := match op with
  | .shl => some (.int k (k.wrap (a * 2 ^ min b.toNat k.bits)), 0 ≤ b)
  | .shr => some (.int k (a.fdiv (2 ^ min b.toNat k.bits)), 0 ≤ b)
  | op => if k = k' then (match op with
    | .add => some (.int k (k.wrap (a + b)), True)
    | .sub => some (.int k (k.wrap (a - b)), True)
    | .mul => some (.int k (k.wrap (a * b)), True)
    | .quo => some (.int k (k.wrap (a.tdiv b)), b ≠ 0)
    | .rem => some (.int k (a.tmod b), b ≠ 0)
    | .and => some (.int k (k.wrap (BitVec.ofInt k.bits a &&& BitVec.ofInt k.bits b).toNat), True)
    | .or => some (.int k (k.wrap (BitVec.ofInt k.bits a ||| BitVec.ofInt k.bits b).toNat), True)
    | .xor => some (.int k (k.wrap (BitVec.ofInt k.bits a ^^^ BitVec.ofInt k.bits b).toNat), True)
    | .andNot => some (.int k (k.wrap (BitVec.ofInt k.bits a &&& ~~~BitVec.ofInt k.bits b).toNat), True)
    | .eql => some (.bool (a == b), True)
    | .neq => some (.bool (a != b), True)
    | .lss => some (.bool (decide (a < b)), True)
    | .leq => some (.bool (decide (a ≤ b)), True)
    | .gtr => some (.bool (decide (a > b)), True)
    | .geq => some (.bool (decide (a ≥ b)), True)
    | _ => none) else none
def strOp (op : BinOp) (a b : ByteArray) : Option (Value × Prop) := match op with
  | .add => some (.string (a ++ b), a.size + b.size ≤ 9223372036854775807)
  | .eql => some (.bool (a.toList == b.toList), True)
  | .neq => some (.bool (!(a.toList == b.toList)), True)
  | .lss => some (.bool (Op.bytesLess a.toList b.toList), True)
  | _ => none
inductive CK where
  | int | bool | str
def cellEq : CK → D → D → Option Bool
  | .int, .v (.int k a), .v (.int k' b) => if k = k' then some (a == b) else none
  | .bool, .v (.bool a), .v (.bool b) => some (a == b)
  | .str, .v (.string a), .v (.string b) => some (a.toList == b.toList)
  | _, _, _ => none
def cellsEq : List CK → List D → List D → Option Bool
  | [], [], [] => some true
  | [c], [a], [b] => cellEq c a b
  | c :: cs, a :: aS, b :: bs => match cellEq c a b, cellsEq cs aS bs with
    | some x, some y => some (x && y)
    | _, _ => none
  | _, _, _ => none
def isNil : TK → PVal → Option Bool
  | .func, .d (.v .nilFunc) => some true
  | .func, .clo _ _ _ => some false
  | .func, .d (.fn _ _ _) => some false
  | .func, .d (.v (.func _ _ _)) => some false
  | .ptr _, .d (.v (.pointer none)) => some true
  | .ptr _, .ref _ _ => some false
  | .ptr _, .d (.ptr _) => some false
  | .ptr _, .refE _ _ _ _ _ => some false
  | .slice _, .d (.v (.slice none _ _)) => some true
  | .slice _, .d (.v (.slice (some _) _ _)) => some false
  | .slice _, .d (.slc _ (_ :: _)) => some false
  | .map _ _, .d (.v (.map none)) => some true
  | .map _ _, .mp _ => some false
  | _, _ => none
def nilP (k : TK) (op : BinOp) (x y : PVal) : Option (PVal × Prop) := match isNil k x, isNil k y, op with
  | some a, some true, .eql => some (pbool a, True)
  | some a, some true, .neq => some (pbool (!a), True)
  | some true, some b, .eql => some (pbool b, True)
  | some true, some b, .neq => some (pbool (!b), True)
  | _, _, _ => none
def recP (ks : List CK) (op : BinOp) (dx dy : Option D) : Option (PVal × Prop) := match dx, dy with
  | some (.agg xs), some (.agg ys) => (match cellsEq ks xs ys, op with
    | some b, .eql => some (pbool b, True)
    | some b, .neq => some (pbool (!b), True)
    | _, _ => none)
  | _, _ => none
def binP (T : Nat → Option TI) (eqt : Nat → Option (List CK)) (h : List (Nat × PObj)) (op : BinOp) (t : Nat) (x y : PVal) : Option (PVal × Prop) :=
  match asInt x, asInt y with
  | some (k, a), some (k', b) => (intOp op k k' a b).map fun r => (.d (.v r.1), r.2)
  | _, _ => match asStr x, asStr y with
    | some a, some b => (strOp op a b).map fun r => (.d (.v r.1), r.2)
    | _, _ => match kindOf T t with
      | some .bool => (match asBool x, asBool y, op with
        | some a, some b, .eql => some (pbool (a == b), True)
        | some a, some b, .neq => some (pbool (!(a == b)), True)
        | _, _, _ => none)
      | some (.struct _) => (match eqt t with
        | some ks => recP ks op (x.toD h) (y.toD h)
        | none => none)
      | some (.array _ _) => (match eqt t with
        | some ks => recP ks op (x.toD h) (y.toD h)
        | none => none)
      | some k => nilP k op x y
      | none => none
def ofV : Value → D
  | .agg cs => .agg (cs.toList.map .v)
  | x => .v x
def St.ev (st : St) : Operand → PVal
  | .tmp t => (find t st.tmps).getD .dead
  | .const v => .d (ofV v)
  | .func f => .d (.v (.func (.func f) #[] #[]))
  | .global g => .d (.v (.pointer (some ⟨g, 0, none⟩)))
def loadP (T : Nat → Option TI) (st : St) (t : Nat) (x : PVal) : Option PVal := match T t with
  | none => none
  | some ti => if ti.kind.known then (match x with
    | .ref id k => (match find id st.heap with
      | some (.box cells) => ofCells ti.size ti.kind.isAgg (cells.drop k)
      | _ => none)
    | .refE id ver s i k => (match find id st.heap with
      | some (.arr _ s' ver' _ els) => if s = s' ∧ ver = ver' ∧ k + ti.size ≤ s then (match els[i]? with
        | some e => ofCells ti.size ti.kind.isAgg ((e.cells.drop k).map .d)
        | none => none) else none
      | some (.box cells) => if ver = 0 then ofCells ti.size ti.kind.isAgg (cells.drop (i * s + k)) else none
      | _ => none)
    | .d (.ptr cells) => ofCells ti.size ti.kind.isAgg (cells.map .d)
    | _ => none) else none
def keyEq : Option (List CK) → D → D → Option Bool
  | none, .v (.int k a), .v (.int k' b) => if k = k' then some (a == b) else none
  | some ks, .agg xs, .agg ys => cellsEq ks xs ys
  | _, _, _ => none
def CK.plain : CK → Bool
  | .str => false
  | _ => true
def keyCK (T : Nat → Option TI) (eqt : Nat → Option (List CK)) (k : Nat) : Option (Option (List CK)) := match kindOf T k with
  | some (.int _) => some none
  | some (.struct _) => (match eqt k with
    | some ks => if ks.all CK.plain = true then some (some ks) else none
    | none => none)
  | _ => none
def mapFind (kk : Option (List CK)) (x : D) : List (D × D) → Option (Option Nat)
  | [] => some none
  | e :: es => match keyEq kk x e.1 with
    | some true => some (some 0)
    | some false => (match mapFind kk x es with
      | some (some j) => some (some (j + 1))
      | some none => some none
      | none => none)
    | none => none
def mapGet (kk : Option (List CK)) (x : D) (es : List (D × D)) (z : D) : Option (D × Bool) := match mapFind kk x es with
  | some (some i) => (match es[i]? with
    | some e => some (e.2, true)
    | none => none)
  | some none => some (z, false)
  | none => none
def mapSet (kk : Option (List CK)) (x v : D) (es : List (D × D)) : Option (List (D × D)) := match mapFind kk x es with
  | some (some i) => some (es.set i (x, v))
  | some none => some (es ++ [(x, v)])
  | none => none
def lookupP (T : Nat → Option TI) (eqt : Nat → Option (List CK)) (h : List (Nat × PObj)) (t : Nat) (x ix : PVal) (ok : Bool) : Option (PVal × Prop) := match kindOf T t, x with
  | some (.map k e), .mp id => (match find id h, T e, keyCK T eqt k, ix.toD h with
    | some (.map es), some te, some kk, some kd => (match mapGet kk kd es (ofV te.zero) with
      | some r => some (if ok = true then .d (.tup [r.1, .v (.bool r.2)]) else .d r.1, (keyEq kk kd kd).isSome = true)
      | none => none)
    | _, _, _, _ => none)
  | _, _ => none
def fieldAddrP (T : Nat → Option TI) (t : Nat) (x : PVal) (f : Nat) : Option PVal := match kindOf T t with
  | some (.struct fs) => (match fs[f]? with
    | some (o, sz, _) => if sz = 0 then none else (match x with
      | .ref id k => some (.ref id (k + o))
      | .refE id ver s i k => some (.refE id ver s i (k + o))
      | .d (.ptr cells) => some (.d (.ptr <| cells.drop o))
      | _ => none)
    | none => none)
  | _ => none
def fieldP (T : Nat → Option TI) (t : Nat) (x : PVal) (f : Nat) : Option PVal := match kindOf T t with
  | some (.struct fs) => (match fs[f]? with
    | some (o, sz, g) => (match x with
      | .agg cs => if o + sz ≤ cs.length then ofCells sz g (cs.drop o) else none
      | .d (.agg cs) => if o + sz ≤ cs.length then ofCells sz g ((cs.drop o).map .d) else none
      | _ => none)
    | none => none)
  | _ => none
def indexAddrP (T : Nat → Option TI) (t : Nat) (x ix : PVal) : Option (PVal × Prop) := match asInt ix, kindOf T t with
  | some (_, i), some (.slice e) => (match T e with
    | none => none
    | some te => match x with
      | .own id ver s off len => if s = te.size then some (.refE id ver s (off + i.toNat) 0, 0 ≤ i ∧ i.toNat < len) else none
      | x => match asSlc te.size x with
        | some els => (match els[i.toNat]? with
          | some el => some (.d (.ptr el.cells), 0 ≤ i)
          | none => none)
        | none => none)
  | some (_, i), some (.array n e) => (match T e with
    | none => none
    | some te => match x with
      | .ref id k => some (.ref id (k + i.toNat * te.size), 0 ≤ i ∧ i.toNat < n)
      | .refE id ver s j k => some (.refE id ver s j (k + i.toNat * te.size), 0 ≤ i ∧ i.toNat < n)
      | .d (.ptr cells) => some (.d (.ptr <| cells.drop (i.toNat * te.size)), 0 ≤ i ∧ i.toNat < n)
      | _ => none)
  | _, _ => none
def indexP (T : Nat → Option TI) (t : Nat) (x ix : PVal) : Option (PVal × Prop) := match asInt ix, asStr x, kindOf T t with
  | some (_, i), some s, some .string => (match s[i.toNat]? with
    | some b => some (pint .u8 b.toNat, 0 ≤ i)
    | none => none)
  | _, _, _ => none
def optInt (st : St) : Option Operand → Option (Option Int)
  | none => some none
  | some x => (asInt (st.ev x)).map fun r => some r.2
def roomOf (h : List (Nat × PObj)) : PVal → Option Nat
  | .own id ver _ _ _ => match find id h with
    | some (.arr _ _ ver' room _) => if ver' = ver then room else none
    | _ => none
  | _ => none
def upTo (rm : Option Nat) (off len : Nat) : Int := match rm with
  | some c => ((c - off : Nat) : Int)
  | none => (len : Int)
def sliceP (T : Nat → Option TI) (t : Nat) (rm : Option Nat) (x : PVal) (lo hi mx : Option Int) : Option (PVal × Prop) := match kindOf T t with
  | some .string => (match asStr x, mx with
    | some s, none => some (pstr (s.extract (lo.getD 0).toNat (hi.getD s.size).toNat), 0 ≤ lo.getD 0 ∧ lo.getD 0 ≤ hi.getD s.size ∧ hi.getD s.size ≤ s.size)
    | _, _ => none)
  | some (.slice e) => (match T e with
    | none => none
    | some te => match x with
      | .own id ver s off len => if s = te.size ∧ mx = none then
          some (.own id ver s (off + (lo.getD 0).toNat) ((hi.getD len).toNat - (lo.getD 0).toNat), 0 ≤ lo.getD 0 ∧ lo.getD 0 ≤ hi.getD len ∧ hi.getD len ≤ upTo rm off len)
        else if s = te.size then (match hi, mx with
          | some h, some m => some (.dead, 0 ≤ lo.getD 0 ∧ lo.getD 0 ≤ h ∧ h ≤ m ∧ m ≤ upTo rm off len)
          | _, _ => none) else none
      | x => match asSlc te.size x with
        | some els => if mx = none ∨ hi ≠ none then some (.d (.slc te.size ((els.take (hi.getD els.length).toNat).drop (lo.getD 0).toNat)),
            0 ≤ lo.getD 0 ∧ lo.getD 0 ≤ hi.getD els.length ∧ hi.getD els.length ≤ mx.getD els.length ∧ mx.getD els.length ≤ els.length) else none
        | none => none)
  | _ => none
def lenP (T : Nat → Option TI) (t : Nat) (x : PVal) : Option Int := match kindOf T t with
  | some .string => (asStr x).map fun s => (s.size : Int)
  | some (.slice e) => (match x with
    | .d (.slc _ els) => some els.length
    | .d (.v (.slice _ n _)) => some n
    | .own _ _ _ _ len => some len
    | _ => none)
  | some (.array n _) => some n
  | _ => none
def lenMP (T : Nat → Option TI) (h : List (Nat × PObj)) (t : Nat) (x : PVal) : Option Int := match x with
  | .mp id => (match kindOf T t, find id h with
    | some (.map _ _), some (.map es) => some es.length
    | _, _ => none)
  | x => lenP T t x
def fillP (place : Nat → Option (Nat × Nat)) : List PVal → List (Nat × PVal) → Option (List PVal)
  | cells, [] => some cells
  | cells, (i, p) :: rest => match place i with
    | none => none
    | some (o, sz) => if p.cells.length = sz ∧ o + sz ≤ cells.length ∧ p.cells.all PVal.one then fillP place (splice cells o p.cells) rest else none
def zeroCells (v : Value) : List PVal := v.cells.toList.map fun c => .d (.v c)
def buildP (T : Nat → Option TI) (t : Nat) (parts : List (Nat × PVal)) : Option PVal := match T t with
  | some ⟨.struct fs, _, _, z⟩ => (fillP (fun i => fs[i]?.map fun f => (f.1, f.2.1)) (zeroCells z) parts).map .agg
  | some ⟨.array _ e, _, _, z⟩ => (match T e with
    | some te => (fillP (fun i => some (i * te.size, te.size)) (zeroCells z) parts).map .agg
    | none => none)
  | _ => none
def PVal.told : PVal → Bool
  | .gd _ _ | .dead => false
  | _ => true
def pickP (c : Bool) (a b : PVal) : Option (PVal × Prop) :=
  let strip : PVal → PVal × Prop := fun | .gd g p => (p, g = true) | p => (p, True)
  match asBool (strip a).1, asBool (strip b).1 with
  | some x, some y => some (pbool (bif c then x else y), (c = true → (strip a).2) ∧ (c = false → (strip b).2))
  | _, _ => match asInt (strip a).1, asInt (strip b).1 with
    | some (k, x), some (k', y) => if k = k' then some (pint k (bif c then x else y), (c = true → (strip a).2) ∧ (c = false → (strip b).2)) else none
    | _, _ => match (strip a).1, (strip b).1 with
      | .d p, .dead => some (.d p, c = true ∧ (strip a).2)
      | .dead, .d q => some (.d q, c = false ∧ (strip b).2)
      | _, _ => none
end Go.Proofs.Ytdodgbhodkcckaa.Pv
end
section
set_option linter.unusedVariables false
set_option linter.unusedSimpArgs false
set_option autoImplicit false
namespace Go.Proofs.Ytdodgbhodkcckaa.Pv
open Go Go.RowKit
def St.only (h : List (Nat × PObj)) : St := ⟨[], h, 0⟩
def Act.none : Act := ⟨#[], []⟩
def Runs (P : Program) (f : FuncId) (args : List PVal) (h : List (Nat × PObj)) (r : PVal) (h' : List (Nat × PObj)) : Prop :=
  (∃ fn, P.funcs[f]? = some fn ∧ (fn.name == "runtime.NumGoroutine") = false ∧ fn.body.isNone = false) ∧
  ∀ (E : Env) (S : Nat → Nat → Prop) (φ : Nat → Nat → Option (Nat × Nat)) (cs : List Value), (∀ b, E.pass b → Owned φ h b) → (∀ k v, S k v → k < 8) →
    Rst E S φ (.only h) Act.none E.w0 → undL S args → PRepL E.w0 (Held E φ h) φ args cs →
    Calls P f cs.toArray E.w0 fun e w' => ∃ c φ' S', e = .returned c ∧ Rst E S' φ' (.only h') Act.none w' ∧ (∀ k v, S' k v → (∃ v', S k v') ∨ (8 ≤ k ∧ k < 12)) ∧ (∀ k v, S k v → S' k v ∧ φ' k v = φ k v) ∧
      r.und S' ∧ PRep w' (Held E φ' h') φ' r c
def subV (x : Value) (y : D) : Prop := match x, y with
  | .slice none 0 0, .slc _ els => els = []
  | x, y => y = .v x
mutual
def subD : D → D → Prop
  | .agg xs, y => (match y with | .agg ys => subL xs ys | _ => False)
  | .tup xs, y => (match y with | .tup ys => subL xs ys | _ => False)
  | .v x, y => subV x y
  | .slc s es, y => (match y with | .slc s' es' => s' = s ∧ subL es es' | _ => False)
  | .ifc t p, y => y = .ifc t p
  | .fn f a b, y => y = .fn f a b
  | .ptr cs, y => y = .ptr cs
def subL : List D → List D → Prop
  | [], ys => ys = []
  | x :: xs, ys => (match ys with | [] => False | y :: ys => subD x y ∧ subL xs ys)
end
def St.put (st : St) (dst : Option Nat) (p : PVal) : St := match dst with
  | some t => { st with tmps := (t, p) :: st.tmps }
  | none => st
structure Eff where
  val : PVal
  dels : List Nat := []
  upds : List (Nat × PObj) := []
def updAll : List (Nat × PObj) → List (Nat × PObj) → List (Nat × PObj)
  | [], h => h
  | (id, o) :: l, h => updAll l (upd id o h)
def delAll : List Nat → List (Nat × PObj) → List (Nat × PObj)
  | [], h => h
  | id :: l, h => delAll l (del id h)
def St.app (st : St) (dst : Option Nat) (e : Eff) : St := { (st.put dst e.val) with heap := updAll e.upds (delAll e.dels st.heap) }
def PVal.strip : PVal → PVal × Prop
  | .gd g p => (p, g = true)
  | p => (p, True)
def St.evs (st : St) (x : Operand) : PVal := (st.ev x).strip.1
def St.gds (st : St) : List Operand → Prop
  | [] => True
  | [x] => (st.ev x).strip.2
  | x :: l => (st.ev x).strip.2 ∧ St.gds st l
def convP (T : Nat → Option TI) (dst : Nat) (x : PVal) : Option PVal := match kindOf T dst, asInt x with
  | some (.int k), some (_, n) => some (pint k (k.wrap n))
  | some .string, none => (asStr x).map pstr
  | _, _ => none
def unP (op : UnOp) (x : PVal) : Option PVal := match op, asInt x, asBool x with
  | .neg, some (k, n), _ => some (pint k (k.wrap (0 - n)))
  | .not, _, some b => some (pbool (!b))
  | _, _, _ => none
def minI (a b : Int) : Int := if b < a then b else a
def maxI (a b : Int) : Int := if a < b then b else a
def computeP (T : Nat → Option TI) (eqt : Nat → Option (List CK)) (st : St) : Op → Option (PVal × Prop)
  | .move x | .assign x => some (st.ev x, True)
  | .pick c a b => match asBool (st.evs c) with
    | some t => (pickP t (st.ev a) (st.ev b)).map fun r => (r.1, st.gds [c] ∧ r.2)
    | none => none
  | .unOp op _ x => (unP op (st.evs x)).map fun v => (v, st.gds [x])
  | .binOp op t x y _ => (binP T eqt st.heap op t (st.evs x) (st.evs y)).map fun r => (r.1, st.gds [x, y] ∧ r.2)
  | .convert src dst x => if (T src).any fun i => i.kind.known then (convP T dst (st.evs x)).map fun v => (v, st.gds [x]) else none
  | .build t parts => (buildP T t (parts.toList.map fun q => (q.1, st.evs q.2))).map fun v => (v, st.gds (parts.toList.map (·.2)))
  | .load t x => (loadP T st t (st.evs x)).map fun v => (v, st.gds [x])
  | .fieldAddr t x f => (fieldAddrP T t (st.evs x) f).map fun v => (v, st.gds [x])
  | .field t x f => (fieldP T t (st.evs x) f).map fun v => (v, st.gds [x])
  | .indexAddr t x i => (indexAddrP T t (st.evs x) (st.evs i)).map fun r => (r.1, st.gds [x, i] ∧ r.2)
  | .index t x i => (indexP T t (st.evs x) (st.evs i)).map fun r => (r.1, st.gds [x, i] ∧ r.2)
  | .slice t x lo hi mx => match optInt st lo, optInt st hi, optInt st mx with
    | some l, some h, some m => (sliceP T t (roomOf st.heap (st.evs x)) (st.evs x) l h m).map fun r => (r.1, st.gds [x] ∧ r.2)
    | _, _, _ => none
  | .extract x i => match st.ev x with
    | .tup vs => vs[i]?.map fun v => (v, True)
    | .d (.tup ds) => ds[i]?.map fun v => (.d v, True)
    | _ => none
  | .nilCheck x => match st.evs x with
    | .ref id k => some (.ref id k, st.gds [x])
    | .d (.ptr cs) => some (.d (.ptr cs), st.gds [x])
    | .refE a b c d e => some (.refE a b c d e, st.gds [x])
    | _ => none
  | .makeFunc fn first cap => some (.clo fn (first.toList.map st.evs) (cap.toList.map st.evs), st.gds (first.toList ++ cap.toList))
  | .makeInterface t x => if (T t).any fun i => i.kind.known && !(i.kind matches .iface) then some (.ifc t (st.evs x), st.gds [x]) else none
  | .call ⟨.builtin .len, args, ts⟩ => match args.toList, ts.toList with
    | [x], [t] => (lenMP T st.heap t (st.evs x)).map fun n => (pint .i64 n, st.gds [x])
    | _, _ => none
  | .lookup t x ix ok => (lookupP T eqt st.heap t (st.evs x) (st.evs ix) ok).map fun r => (r.1, st.gds [x, ix] ∧ r.2)
  | .call ⟨.builtin .cap, args, ts⟩ => match args.toList, ts.toList with
    | [x], [t] => (match kindOf T t, st.evs x with
      | some (.slice _), .own id ver s off len => (match find id st.heap with
        | some (.arr _ _ ver' (some n) _) => if ver = ver' then some (pint .i64 ((n - off : Nat) : Int), st.gds [x]) else none
        | _ => none)
      | _, _ => none)
    | _, _ => none
  | .call ⟨.builtin .min, args, _⟩ => match args.toList with
    | [x, y] => (match asInt (st.evs x), asInt (st.evs y) with
      | some (k, a), some (_, b) => some (pint k (minI a b), st.gds [x, y])
      | _, _ => none)
    | _ => none
  | .call ⟨.builtin .max, args, _⟩ => match args.toList with
    | [x, y] => (match asInt (st.evs x), asInt (st.evs y) with
      | some (k, a), some (_, b) => some (pint k (maxI a b), st.gds [x, y])
      | _, _ => none)
    | _ => none
  | _ => none
mutual
def PVal.shift (ρ : Nat → Nat) : PVal → PVal
  | .agg ps => .agg (shiftL ρ ps)
  | .tup ps => .tup (shiftL ρ ps)
  | .ref id k => .ref (ρ id) k
  | .refE id ver s i k => .refE (ρ id) ver s i k
  | .own id ver s off len => .own (ρ id) ver s off len
  | .mp id => .mp (ρ id)
  | .clo f a b => .clo f (shiftL ρ a) (shiftL ρ b)
  | .ifc t p => .ifc t (PVal.shift ρ p)
  | .gd b p => .gd b (PVal.shift ρ p)
  | x => x
def shiftL (ρ : Nat → Nat) : List PVal → List PVal
  | [] => []
  | p :: ps => PVal.shift ρ p :: shiftL ρ ps
end
def PObj.shift (ρ : Nat → Nat) : PObj → PObj
  | .box ps => .box (shiftL ρ ps)
  | .iter m clk seen => .iter (ρ m) clk seen
  | o => o
def shiftH (ρ : Nat → Nat) : List (Nat × PObj) → List (Nat × PObj)
  | [] => []
  | (id, o) :: l => (ρ id, o.shift ρ) :: shiftH ρ l
mutual
def PVal.ids : PVal → List Nat
  | .agg ps | .tup ps => idsL ps
  | .own id _ _ _ _ | .ref id _ | .refE id _ _ _ _ | .mp id => [id]
  | .clo _ a b => idsL a ++ idsL b
  | .ifc _ p | .gd _ p => PVal.ids p
  | .d _ | .dead => []
def idsL : List PVal → List Nat
  | [] => []
  | p :: ps => PVal.ids p ++ idsL ps
end
mutual
def D.flat : D → Bool
  | .v _ => true
  | .agg ds | .tup ds => flatL ds
  | _ => false
def flatL : List D → Bool
  | [] => true
  | d :: ds => D.flat d && flatL ds
end
def PVal.flat : PVal → Bool
  | .d x => x.flat
  | _ => false
def argP (h : List (Nat × PObj)) (ρ : Nat → Nat) (q p : PVal) : Prop := match p with
  | .d y => (match q.toD h with
    | some x => subD x y
    | none => False)
  | p => q = p.shift ρ
def argsP (h : List (Nat × PObj)) (ρ : Nat → Nat) : List PVal → List PVal → Prop
  | [], [] => True
  | q :: qs, p :: ps => argP h ρ q p ∧ argsP h ρ qs ps
  | _, _ => False
def frozen : List PVal → List PVal → List Nat
  | q :: qs, .d _ :: ps => q.ids ++ frozen qs ps
  | _ :: qs, _ :: ps => frozen qs ps
  | _, _ => []
def rename (L : List Nat) (nid : Nat → Nat) (k : Nat) : Nat := if k < 8 then L.getD k (nid (k + 4)) else nid (k - 8)
def callee (p : PVal) : Option (Nat × List PVal × List PVal) := match p with
  | .d (.v (.func (.func f) a b)) => some (f, a.toList.map fun c => .d (.v c), b.toList.map fun c => .d (.v c))
  | .d (.fn (.func f) a b) => some (f, a.map .d, b.map .d)
  | .clo (.func f) a b => some (f, a, b)
  | _ => none
def callP (P : Program) (fid : Nat) (nid : Nat → Nat) (st : St) (qs : List PVal) (L : List Nat) (ps : List PVal) (h : List (Nat × PObj)) (r : PVal) (h' : List (Nat × PObj)) (give : Bool) (K : Eff → Prop) : Prop :=
  argsP st.heap (rename L nid) qs ps ∧ Runs P fid ps h r h' ∧ (L.Nodup ∧ L.length ≤ 8 ∧ h.map (·.1) = List.range L.length ∧ (h.map fun q => some (q.2.shift (rename L nid))) = L.map fun i => find i st.heap) ∧
    ((h'.map (·.1)).Nodup ∧ ∀ i ∈ frozen qs ps, i ∉ L) ∧ (give = true ∨ frozen qs ps = [] ∨ (r.flat = true ∧ h' = [])) ∧
    K ⟨r.shift (rename L nid), L ++ (if give = true then frozen qs ps else []), shiftH (rename L nid) h'⟩
def CallK (P : Program) (fid : Nat) (nid : Nat → Nat) (st : St) (qs : List PVal) (K : Eff → Prop) : Prop := ∃ L ps h r h' give, callP P fid nid st qs L ps h r h' give K
def CallG (P : Program) (fid : Nat) (g : Bool) (st : St) (qs : List PVal) (G : Prop) (K : Eff → Prop) : Prop :=
  ∃ ps x, (g = true → argsP st.heap (fun k => k) qs ps ∧ (∀ p ∈ ps, ∃ y, p = .d y) ∧ Runs P fid ps [] (.d x) [] ∧ G) ∧ (frozen qs ps = [] ∨ x.flat = true) ∧ K ⟨.gd g (.d x), [], []⟩
def IsOver (P : Program) (fid tS : Nat) : Prop := ∃ fn tR, P.funcs[fid]? = some fn ∧ (fn.name == "runtime.NumGoroutine") = false ∧ fn.body.isNone = true ∧ Extern.findNext fn = none ∧ Extern.find fn = some (Extern.SlicesOverlaps.overlaps #[tS, tS] #[tR])
def OverK (P : Program) (T : Nat → Option TI) (fid : Nat) (st : St) (qs : List PVal) (K : Eff → Prop) : Prop :=
  ∃ tS el te id1 v1 o1 l1 id2 v2 o2 l2 e1 r1 els1 e2 r2 els2, (IsOver P fid tS ∧ kindOf T tS = some (.slice el) ∧ T el = some te ∧ 0 < te.size) ∧ qs = [.own id1 v1 te.size o1 l1, .own id2 v2 te.size o2 l2] ∧ id1 ≠ id2 ∧
    (find id1 st.heap = some (.arr e1 te.size v1 r1 els1) ∧ find id2 st.heap = some (.arr e2 te.size v2 r2 els2) ∧ 0 < l1 ∧ 0 < l2) ∧ K ⟨pbool false, [], []⟩
def srcP (h : List (Nat × PObj)) (s : Nat) : PVal → Option (List D × Nat)
  | .own id ver s' off len => match find id h with
    | some (.arr _ s'' ver' _ els) => if s' = s ∧ s'' = s ∧ ver' = ver then some ((els.drop off).take len, len) else none
    | _ => none
  | p => (asSlc s p).map fun els => (els, els.length)
def storeE (s ver k : Nat) (d : D) (o : PObj) (i : Nat) : Option PObj := match o with
  | .arr e s' ver' room els => if s = s' ∧ ver = ver' ∧ k + d.cells.length ≤ s then els[i]?.map fun el => .arr e s ver room (els.set i (el.withCells (splice el.cells k d.cells))) else none
  | _ => none
def stepP (P : Program) (T : Nat → Option TI) (eqt : Nat → Option (List CK)) (nid : Nat → Nat) (op : Op) (st : St) (K : Eff → Prop) : Prop := match op with
  | .alloc t => match T t with
    | some ti => K ⟨.ref (nid 0) 0, [], [(nid 0, .box (zeroCells ti.zero))]⟩
    | none => False
  | .box t x => match T t with
    | some _ => ((st.evs x).told = true ∧ st.gds [x]) ∧ K ⟨.ref (nid 0) 0, [], [(nid 0, .box (st.evs x).cells)]⟩
    | none => False
  | .buildSlice t len parts => match kindOf T t with
    | some (.slice e) => (match T e, toDL st.heap (parts.toList.map fun q => st.evs q.2) with
      | some te, some ds => (parts.toList.map (·.1) = List.range len ∧ len * te.size ≤ 16777216 ∧ len ≤ maxLen ∧ (∀ d ∈ ds, d.cells.length = te.size ∧ d.cells.all D.one = true) ∧ st.gds (parts.toList.map (·.2))) ∧
          K ⟨.own (nid 0) 0 te.size 0 len, idsL (parts.toList.map fun q => st.evs q.2), [(nid 0, .arr e te.size 0 (some len) ds)]⟩
      | _, _ => False)
    | _ => False
  | .makeSlice t l c => match kindOf T t, asInt (st.evs l), asInt (st.evs c) with
    | some (.slice e), some (_, l'), some (_, c') => (match T e with
      | some te => (0 ≤ l' ∧ l' ≤ c' ∧ (te.bytes : Int) * c' ≤ 281474976710656 ∧ c' ≤ maxLen ∧ st.gds [l, c]) ∧
          (K ⟨.own (nid 0) 0 te.size 0 l'.toNat, [], [(nid 0, .arr e te.size 0 (some c'.toNat) (List.replicate l'.toNat (ofV te.zero)))]⟩ ∨
            ((te.size = 1 ∧ (ofV te.zero).one = true ∧ l' = c') ∧ K ⟨.own (nid 0) 0 1 0 l'.toNat, [], [(nid 0, .box (List.replicate l'.toNat (.d (ofV te.zero))))]⟩))
      | none => False)
    | _, _, _ => False
  | .makeMap t r => match kindOf T t, r with
    | some (.map _ _), none => K ⟨.mp (nid 0), [], [(nid 0, .map [])]⟩
    | _, _ => False
  | .mapUpdate t m k x | .insert t m k x => match kindOf T t, st.evs m with
    | some (.map kt _), .mp id => (match find id st.heap, keyCK T eqt kt, (st.evs k).toD st.heap, (st.evs x).toD st.heap with
      | some (.map es), some kk, some kd, some xd => (match mapSet kk kd xd es with
        | some es' => ((keyEq kk kd kd).isSome = true ∧ (st.evs k).ids = [] ∧ (st.evs x).ids.contains id = false ∧ st.gds [m, k, x]) ∧ K ⟨.dead, (st.evs x).ids, [(id, .map es')]⟩
        | none => False)
      | _, _, _, _ => False)
    | _, _ => False
  | .store t a x => match T t, st.evs a with
    | some ti, .ref id k => (match find id st.heap with
      | some (.box cells) => ((st.evs x).cells.length = ti.size ∧ k + ti.size ≤ cells.length ∧ (st.evs x).cells.all PVal.one = true ∧ st.gds [a, x]) ∧
          K ⟨.dead, [], [(id, .box (splice cells k (st.evs x).cells))]⟩
      | _ => False)
    | some ti, .refE id ver s i k => (match find id st.heap with
      | some (.box cells) => (ver = 0 ∧ (st.evs x).cells.length = ti.size ∧ i * s + k + ti.size ≤ cells.length ∧ (st.evs x).cells.all PVal.one = true ∧ st.gds [a, x]) ∧
          K ⟨.dead, [], [(id, .box (splice cells (i * s + k) (st.evs x).cells))]⟩
      | some o => (match (st.evs x).toD st.heap with
        | some d => (match storeE s ver k d o i with
          | some o' => (d.cells.length = ti.size ∧ d.cells.all D.one = true ∧ (st.evs x).ids.contains id = false ∧ st.gds [a, x]) ∧ K ⟨.dead, (st.evs x).ids, [(id, o')]⟩
          | none => False)
        | none => False)
      | none => False)
    | _, _ => False
  | .call ⟨.builtin .append, args, ts⟩ => match args.toList, ts.toList with
    | [s, x], [t, t'] => (match kindOf T t, kindOf T t' with
      | some (.slice e), some (.int .i64) => (match T e, st.evs s, asInt (st.evs x) with
        | some te, .own id ver s' off len, some (.i64, m) => (match find id st.heap with
          | some (.arr e' s'' ver' (some r) els) => (off = 0 ∧ e' = e ∧ s' = te.size ∧ s'' = s' ∧ ver' = ver ∧ len ≤ els.length ∧ 0 < els.length ∧ 0 < m ∧ 0 < te.size ∧ r < len + m.toNat ∧ len + m.toNat ≤ maxLen ∧ (len + m.toNat) * te.bytes ≤ 140737488355328 ∧ st.gds [s, x]) ∧
              K ⟨.own (nid 0) 0 s' 0 (len + m.toNat), [], [(nid 0, .arr e s' 0 none (els.take len ++ List.replicate m.toNat (ofV te.zero)))]⟩
          | _ => False)
        | _, _, _ => False)
      | some (.slice e), _ => (match T e, (st.evs x).toD st.heap with
        | some te, some dx => (match asSlc te.size (.d dx) with
          | some new => (t = t' ∧ st.gds [s, x] ∧ 0 < te.size ∧ ∀ d ∈ new, d.cells.all D.one = true) ∧ (match st.evs s with
            | .d (.v (.slice none 0 0)) => (new.length ≤ maxLen ∧ new.length * te.bytes ≤ 140737488355328) ∧ K ⟨.own (nid 0) 0 te.size 0 new.length, (st.evs x).ids, [(nid 0, .arr e te.size 0 none new)]⟩
            | .own id ver s' off len => (match find id st.heap with
              | some (.arr e' s'' ver' room els) => (((off = 0 ∧ e' = e ∧ s' = te.size ∧ s'' = s' ∧ ver' = ver ∧ len ≤ els.length ∧ len + new.length ≤ maxLen ∧ (len + new.length) * te.bytes ≤ 140737488355328 ∧ (st.evs x).ids.contains id = false) ∧
                  (K ⟨.own id (ver + 1) s' 0 (len + new.length), (st.evs x).ids, [(id, .arr e s' (ver + 1) none (els.take len ++ new))]⟩ ∨
                    ((match room with | some r => r < len + new.length | none => False) ∧ K ⟨.own (nid 0) 0 s' 0 (len + new.length), (st.evs x).ids, [(nid 0, .arr e s' 0 none (els.take len ++ new))]⟩))) ∨
                    (match room with
                    | some r => (e' = e ∧ s' = te.size ∧ s'' = s' ∧ ver' = ver ∧ off + len ≤ els.length ∧ (st.evs x).ids.contains id = false) ∧
                        ((off + len + new.length ≤ r ∧ K ⟨.own id ver s' off (len + new.length), (st.evs x).ids, [(id, .arr e s' ver (some r) (els.take (off + len) ++ new ++ els.drop (off + len + new.length)))]⟩) ∨
                          ((r < off + len + new.length ∧ len + new.length ≤ maxLen ∧ (len + new.length) * te.bytes ≤ 140737488355328) ∧ K ⟨.own (nid 0) 0 s' 0 (len + new.length), (st.evs x).ids, [(nid 0, .arr e s' 0 none ((els.drop off).take len ++ new))]⟩))
                    | none => False)) ∨
                  (match srcP st.heap te.size (st.evs x) with
                  | some (src, n) => (src.length = n ∧ off = 0 ∧ e' = e ∧ s' = te.size ∧ s'' = s' ∧ ver' = ver ∧ len + src.length ≤ els.length ∧ ∀ d ∈ src, d.cells.all D.one = true) ∧ K ⟨.own id ver s' 0 (len + src.length), [], [(id, .arr e' s' ver room (els.take len ++ src ++ els.drop (len + src.length)))]⟩
                  | none => False)
              | _ => False)
            | _ => False)
          | none => False)
        | _, _ => False)
      | _, _ => False)
    | _, _ => False
  | .call ⟨.builtin .copy, args, ts⟩ => match args.toList, ts.toList with
    | [d, x], [t, _] => (match kindOf T t with
      | some (.slice e) => (match T e, st.evs d with
        | some te, .own id ver s' off len => (match find id st.heap, srcP st.heap te.size (st.evs x) with
          | some (.arr e' s'' ver' room els), some (src, n) => (min n len ≤ src.length ∧ s' = te.size ∧ s'' = s' ∧ ver' = ver ∧ off ≤ els.length ∧ 0 < te.size ∧ (∀ d ∈ src, d.cells.all D.one = true) ∧ st.gds [d, x]) ∧
              K ⟨pint .i64 ((min n len : Nat) : Int), [], [(id, .arr e' s' ver room (els.take off ++ src.take (min n len) ++ els.drop (off + min n len)))]⟩
          | _, _ => False)
        | _, _ => False)
      | _ => False)
    | _, _ => False
  | .call ⟨.builtin .clear, args, ts⟩ => match args.toList, ts.toList with
    | [x], [t] => (match kindOf T t with
      | some (.slice e) => (match T e, st.evs x with
        | some te, .own id ver s' off len => (match find id st.heap with
          | some (.arr e' s'' ver' room els) => (s' = te.size ∧ s'' = s' ∧ ver' = ver ∧ off ≤ els.length ∧ 0 < te.size ∧ (ofV te.zero).cells.all D.one = true ∧ st.gds [x]) ∧
              K ⟨.d (.tup []), [], [(id, .arr e' s' ver room (els.take off ++ List.replicate len (ofV te.zero) ++ els.drop (off + len)))]⟩
          | _ => False)
        | _, _ => False)
      | _ => False)
    | _, _ => False
  | .call ⟨.value f, args, _⟩ => match callee (st.evs f) with
    | some (fid, a, b) => st.gds (f :: args.toList) ∧ (CallK P fid nid st (a ++ args.toList.map st.evs ++ b) K ∨ OverK P T fid st (a ++ args.toList.map st.evs ++ b) K)
    | none => False
  | op => match computeP T eqt st op with
    | some (p, pre) => pre ∧ K ⟨p, [], []⟩
    | none => False
def stepG (P : Program) (T : Nat → Option TI) (eqt : Nat → Option (List CK)) (nid : Nat → Nat) (g : Bool) (op : Op) (st : St) (K : Eff → Prop) : Prop := match op with
  | .call ⟨.value f, args, _⟩ => match callee (st.evs f) with
    | some (fid, a, b) => CallG P fid g st (a ++ args.toList.map st.evs ++ b) (st.gds (f :: args.toList)) K
    | none => False
  | .buildSlice t len parts => (match g with
    | true => stepP P T eqt nid (.buildSlice t len parts) st K
    | false => K ⟨.dead, [], []⟩)
  | op => match computeP T eqt st op with
    | some (p, pre) => (g = true → pre) ∧ K ⟨(match p with | .gd g' q => .gd (g && g') q | p => .gd g p), [], []⟩
    | none => g = false ∧ K ⟨.gd false .dead, [], []⟩
def dstOf (ops : List Oper) (i : Nat) : Option Nat := match ops[i]? with
  | some o => o.dst
  | none => none
def guardP (p : PVal) (want : Bool) : Option Bool := match p with
  | .gd g q => (match asBool q with
    | some b => some (g && (b == want))
    | none => if g = true then none else some false)
  | q => (asBool q).map fun b => b == want
def opP (P : Program) (T : Nat → Option TI) (eqt : Nat → Option (List CK)) (nid : Nat → Nat) (all : List Oper) (o : Oper) (st : St) (K : Eff → Prop) : Prop := match o.guard with
  | none => stepP P T eqt nid o.op st K
  | some (g, want) => match dstOf all g with
    | some t => (match guardP (st.ev (.tmp t)) want with
      | some b => stepG P T eqt nid b o.op st K
      | none => False)
    | none => False
end Go.Proofs.Ytdodgbhodkcckaa.Pv
end
section
set_option linter.unusedVariables false
set_option linter.unusedSimpArgs false
set_option autoImplicit false
namespace Go.Proofs.Ytdodgbhodkcckaa.Pv
open Go Go.RowKit
theorem kindOf_some {T : Nat → Option TI} {t : Nat} {k : TK} (h : kindOf T t = some k) : ∃ ti, T t = some ti ∧ ti.kind = k := by
  unfold kindOf at h
  cases e : T t with
  | none => simp [e] at h
  | some ti => exact ⟨ti, rfl, by simpa [e] using h⟩
section
variable {P : Program} {T : Nat → Option TI} (hT : TbOK P T)
include hT
theorem run_sizeOf_T {t : Nat} {ti : TI} (h : T t = some ti) (w : World) : (sizeOf t).run P w = .ok ti.size w := by
  obtain ⟨f, hf, hs, _⟩ := (hT t ti h).info
  simp [sizeOf, typeInfo, hf, hs]
theorem run_zeroValue_T {t : Nat} {ti : TI} (h : T t = some ti) (w : World) : (zeroValue t).run P w = .ok ti.zero w := by
  obtain ⟨f, hf, _, _, hz⟩ := (hT t ti h).info
  simp [zeroValue, typeInfo, hf, hz]
theorem run_isAgg_T {t : Nat} {ti : TI} (h : T t = some ti) (hk : ti.kind.known = true) (w : World) : (isAgg t).run P w = .ok ti.kind.isAgg w := by
  have hd := (hT t ti h).desc
  cases hkd : ti.kind with
  | other => rw [hkd] at hk; cases hk
  | struct fs => rw [hkd] at hd; obtain ⟨fields, hu, _⟩ := hd; simp [isAgg, run_underlying hu, TK.isAgg]
  | func => rw [hkd] at hd; obtain ⟨x, y, z, hu⟩ := hd; simp [isAgg, run_underlying hu, TK.isAgg]
  | iface => rw [hkd] at hd; obtain ⟨x, hu⟩ := hd; simp [isAgg, run_underlying hu, TK.isAgg]
  | _ => rw [hkd] at hd; have hu : P.underlying t = _ := hd; simp [isAgg, run_underlying hu, TK.isAgg]
theorem desc_of {t : Nat} {k : TK} (h : kindOf T t = some k) : DescOK P t k := by
  obtain ⟨ti, e, rfl⟩ := kindOf_some h
  exact (hT t ti e).desc
end
theorem fieldsOK_get {P : Program} : ∀ {fs : List (Nat × Nat × Bool)} {gs : List Field}, FieldsOK P fs gs → ∀ {i o s : Nat} {g : Bool}, fs[i]? = some (o, s, g) →
    ∃ f, gs[i]? = some f ∧ f.offset = o ∧ (P.info? f.type).map (·.size) = some s ∧ (P.underlying f.type).isSome = true ∧ aggOf P f.type = g
  | [], gs, h, i, o, s, g, hi => by simp at hi
  | (o', s', g') :: fs, [], h, i, o, s, g, hi => by simp [FieldsOK] at h
  | (o', s', g') :: fs, f :: gs, h, i, o, s, g, hi => by
    simp only [FieldsOK] at h
    cases i with
    | zero => simp at hi; obtain ⟨rfl, rfl, rfl⟩ := hi; exact ⟨f, by simp, h.1, h.2.1, h.2.2.1, h.2.2.2.1⟩
    | succ i => simpa using fieldsOK_get h.2.2.2.2 (by simpa using hi)
theorem run_isAgg_of {P : Program} {t : Nat} {g : Bool} (hu : (P.underlying t).isSome = true) (h : aggOf P t = g) (w : World) : (isAgg t).run P w = .ok g w := by
  cases e : P.underlying t with
  | none => simp [e] at hu
  | some d =>
    unfold isAgg
    rw [Sem.run_bind, run_underlying e w]
    simp only [aggOf, e] at h
    subst h
    cases d <;> simp
theorem addr_add (b o k : Nat) : (⟨b, o, none⟩ : Addr).add k = ⟨b, o + k, none⟩ := by
  unfold Addr.add; split
  · rename_i h; subst h; rfl
  · rfl
theorem CellsAt.run {P : Program} {w : World} {b off : Nat} {cs : List Value} (h : CellsAt w b off cs) : (loadCells ⟨b, off, none⟩ cs.length).run P w = .ok cs.toArray w :=
  run_loadCells_list w _ cs fun j v hj => by
    obtain ⟨hlt, e⟩ := List.getElem?_eq_some_iff.1 hj
    rw [addr_add, h j hlt, e]
theorem CellsAt.take {w : World} {b off : Nat} {cs : List Value} (h : CellsAt w b off cs) (n : Nat) : CellsAt w b off (cs.take n) := fun j hj => by
  have hj' : j < cs.length := by simp at hj; omega
  rw [h j hj', List.getElem_take]
theorem CellsAt.drop {w : World} {b off : Nat} {cs : List Value} (h : CellsAt w b off cs) (n : Nat) : CellsAt w b (off + n) (cs.drop n) := fun j hj => by
  have hj' : n + j < cs.length := by simp at hj; omega
  rw [Nat.add_assoc, h (n + j) hj', List.getElem_drop]
theorem CellsAt.row {w : World} {b : Nat} {cs : List Value} {ty : TypeId} {fr : Nat × Nat} (h : w.heap[b]? = some (.cells cs.toArray ty fr)) : CellsAt w b 0 cs := fun j hj => by
  rw [cell_of_row w b (0 + j) cs.toArray ty fr h]; simp [hj]
theorem CellsAt.append {w : World} {b off : Nat} {xs ys : List Value} (h : CellsAt w b off xs) (h' : CellsAt w b (off + xs.length) ys) : CellsAt w b off (xs ++ ys) := fun j hj => by
  by_cases hlt : j < xs.length
  · rw [h j hlt, List.getElem_append_left hlt]
  · have hge : xs.length ≤ j := Nat.le_of_not_lt hlt
    have hj2 : j - xs.length < ys.length := by simp at hj; omega
    have := h' (j - xs.length) hj2
    rw [List.getElem_append_right hge, ← this]
    congr 2; omega
theorem getElem?_cells {w : World} {b off : Nat} {cs : List Value} (h : CellsAt w b off cs) {j : Nat} {v : Value} (hj : cs[j]? = some v) : w.cell? ((⟨b, off, none⟩ : Addr).add j) = some v := by
  obtain ⟨hlt, e⟩ := List.getElem?_eq_some_iff.1 hj
  rw [addr_add, h j hlt, e]
theorem DRep.ofV {w : World} {O : Nat → Prop} (v : Value) : DRep w O (ofV v) v := by
  cases v <;> first
    | (simp only [Pv.ofV, DRep]; done)
    | (rename_i cs; simp only [Pv.ofV, DRep]; exact ⟨cs.toList, by simp, DRepL.vs _⟩)
section
variable {E : Env} {S : Nat → Nat → Prop} {φ : Nat → Nat → Option (Nat × Nat)} {st : St} {a : Act} {w : World}
theorem Rst.ev (h : Rst E S φ st a w) (x : Operand) : (st.ev x).und S ∧ PRep w (Held E φ st.heap) φ (st.ev x) (a.eval x) := by
  cases x with
  | tmp t =>
    simp only [St.ev, Act.eval]
    cases e : find t st.tmps with
    | none => simp [PVal.und, PRep]
    | some p => simpa using h.tmps t p e
  | const v => simp only [St.ev, Act.eval, PVal.und, PRep]; exact ⟨trivial, DRep.ofV v⟩
  | func f => simp [St.ev, Act.eval, PVal.und, PRep, DRep]
  | global g => simp [St.ev, Act.eval, PVal.und, PRep, DRep]
theorem PRep.strip {O : Nat → Prop} {p : PVal} {c : Value} (h : PRep w O φ p c) (hg : p.strip.2) : PRep w O φ p.strip.1 c := by
  cases p <;> first
    | exact h
    | (simp only [PVal.strip, PRep] at *; exact h.1 hg)
theorem strip_und {n : Nat → Nat → Prop} {p : PVal} (h : p.und n) (hg : p.strip.2) : p.strip.1.und n := by
  cases p <;> first
    | exact h
    | (simp only [PVal.strip, PVal.und] at *; exact h hg)
theorem Rst.evs (h : Rst E S φ st a w) (x : Operand) (hg : (st.ev x).strip.2) : (st.evs x).und S ∧ PRep w (Held E φ st.heap) φ (st.evs x) (a.eval x) :=
  ⟨strip_und (h.ev x).1 hg, PRep.strip (h.ev x).2 hg⟩
theorem gds_mem : ∀ {l : List Operand}, st.gds l → ∀ x ∈ l, (st.ev x).strip.2
  | [], _, x, hx => by simp at hx
  | [y], h, x, hx => by simp at hx; subst hx; exact h
  | y :: z :: l, h, x, hx => by
    simp only [St.gds] at h
    rcases List.mem_cons.1 hx with rfl | hx
    · exact h.1
    · exact gds_mem (l := z :: l) h.2 x hx
theorem Rst.evL (h : Rst E S φ st a w) : ∀ {l : List Operand}, (∀ x ∈ l, (st.ev x).strip.2) → undL S (l.map st.evs) ∧ PRepL w (Held E φ st.heap) φ (l.map st.evs) (l.map a.eval)
  | [], _ => by simp [undL, PRepL]
  | x :: l, hg => by
    have h1 := h.evs x (hg x (by simp))
    have h2 := Rst.evL h (l := l) fun y hy => hg y (by simp [hy])
    simp only [List.map_cons, undL, PRepL]
    exact ⟨⟨h1.1, h2.1⟩, _, _, rfl, h1.2, h2.2⟩
theorem eval_put_tmp (a : Act) (d : Nat) (v : Value) (t : Nat) : (a.put (some d) v).tmps.getD t undef = if t = d ∧ d < a.tmps.size then v else a.tmps.getD t undef := by
  simp only [Act.put, Array.getD_eq_getD_getElem?, Array.getElem?_setIfInBounds]
  by_cases h : d = t
  · subst h
    by_cases hl : d < a.tmps.size
    · simp [hl]
    · simp [hl]
  · have : ¬ t = d := fun e => h e.symm
    simp [h, this]
theorem put_size (a : Act) (d : Option Nat) (v : Value) : (a.put d v).tmps.size = a.tmps.size := by cases d <;> simp [Act.put]
theorem Rst.put (h : Rst E S φ st a w) {dst : Option Nat} {p : PVal} {c : Value} (hd : ∀ d, dst = some d → d < a.tmps.size) (hu : p.und S) (hp : PRep w (Held E φ st.heap) φ p c) : Rst E S φ (st.put dst p) (a.put dst c) w := by
  cases dst with
  | none => exact h
  | some d =>
    refine { h with defers := h.defers, tmps := ?_ }
    intro t q hq
    simp only [St.put, find] at hq
    rw [eval_put_tmp]
    split at hq
    · rename_i e; subst e
      cases hq
      simp only [true_and, hd t rfl, if_true]
      exact ⟨hu, hp⟩
    · rename_i e
      simp only [e, false_and, if_false]
      exact h.tmps t q hq
theorem PObj.und_mono {n n' : Nat → Nat → Prop} (h : ∀ i v, n i v → n' i v) {o : PObj} (ho : o.und n) : o.und n' := by
  cases o <;> simp only [PObj.und] at ho ⊢ <;> first | exact undL_mono h _ ho | exact h _ _ ho
theorem ORep.keep {w' : World} {O O' : Nat → Prop} {φ' : Nat → Nat → Option (Nat × Nat)} {n : Nat → Nat → Prop} {id : Nat} {o : PObj} (hk : Keeps O w w') (hO : ∀ b, b < w.heap.size → O' b → O b) (hφ : ∀ id v, n id v → φ' id v = φ id v) (hid : n id o.ver) (hu : o.und n)
    (hb : ∀ b, blk φ id o = some b → w'.heap[b]? = w.heap[b]?) (h : ORep w O φ id o) : ORep w' O' φ' id o := by
  cases o with
  | box ps =>
    simp only [ORep, blk, PObj.und, PObj.ver] at *
    obtain ⟨b, n', cs, ty, h1, h2, h3⟩ := h
    exact ⟨b, n', cs, ty, (hφ _ _ hid).trans h1, (hb b (by rw [h1]; rfl)).trans h2, PRepL.keep hk hO hφ ps cs hu h3⟩
  | arr e s ver room els =>
    simp only [ORep, blk, PObj.und, PObj.ver] at *
    rw [hφ _ _ hid]
    refine h.imp_right ?_
    rintro ⟨b, n', cs, h1, h2, h3, h4, h5, h6, h7⟩
    exact ⟨b, n', cs, h1, h2, h3, h4, (hb b (by rw [h1]; rfl)).trans h5, h6, DRepE.keep hk hO (hb b (by rw [h1]; rfl)) els 0 h7⟩
  | map es =>
    simp only [ORep, blk, PObj.und, PObj.ver] at *
    obtain ⟨b, n', arr, clock, h1, h2, h3, h4, h5⟩ := h
    exact ⟨b, n', arr, clock, (hφ _ _ hid).trans h1, (hb b (by rw [h1]; rfl)).trans h2, DRepL.keep hk hO _ _ h3, DRepL.keep hk hO _ _ h4, h5⟩
  | mapg es born clk =>
    simp only [ORep, blk, PObj.und, PObj.ver] at *
    obtain ⟨b, n', arr, h1, h2, h3, h4, h5⟩ := h
    exact ⟨b, n', arr, (hφ _ _ hid).trans h1, (hb b (by rw [h1]; rfl)).trans h2, DRepL.keep hk hO _ _ h3, DRepL.keep hk hO _ _ h4, h5⟩
  | iter m clk seen =>
    simp only [ORep, blk, PObj.und, PObj.ver] at *
    obtain ⟨b, n', bm, nm, h1, h2, h3⟩ := h
    exact ⟨b, n', bm, nm, (hφ _ _ hid).trans h1, (hφ _ _ hu).trans h2, (hb b (by rw [h1]; rfl)).trans h3⟩
  | siter s pos =>
    simp only [ORep, blk, PObj.und, PObj.ver] at *
    obtain ⟨b, n', h1, h2⟩ := h
    exact ⟨b, n', (hφ _ _ hid).trans h1, (hb b (by rw [h1]; rfl)).trans h2⟩
theorem Rst.grow (h : Rst E S φ st a w) {w' : World} (hb : Below w.heap.size w w') : Rst E S φ st a w' := by
  have hk : Keeps (Held E φ st.heap) w w' := ⟨hb.size, fun b hlt _ => hb.block b hlt⟩
  refine { os := hb.os.trans h.os, tape := hb.tape.trans h.tape, output := hb.output.trans h.output, size := Nat.le_trans h.size hb.size, old := ?_, defers := h.defers, tmps := ?_, objs := ?_, inj := h.inj }
  · intro b hlt hp; rw [hb.block b (Nat.lt_of_lt_of_le hlt h.size)]; exact h.old b hlt hp
  · intro t p hp
    obtain ⟨h1, h2⟩ := h.tmps t p hp
    exact ⟨h1, PRep.keep hk (fun _ _ h => h) (fun _ _ _ => rfl) p _ h1 h2⟩
  · intro id o ho
    obtain ⟨h1, h1', h2, h3, h4⟩ := h.objs id o ho
    exact ⟨h1, h1', h2, fun b hb' => ⟨Nat.lt_of_lt_of_le (h3 b hb').1 hb.size, (h3 b hb').2⟩, ORep.keep hk (fun _ _ h => h) (fun _ _ _ => rfl) h1 h2 (fun b hb' => hb.block b (h3 b hb').1) h4⟩
theorem below_new (w : World) (o : Obj) : Below w.heap.size w (w.alloc o) := (Below.refl _ _).alloc (Nat.le_refl _) o
theorem keeps_below {O : Nat → Prop} {w w' : World} (hb : Below w.heap.size w w') : Keeps O w w' := ⟨hb.size, fun b hlt _ => hb.block b hlt⟩
theorem blk_congr {φ φ' : Nat → Nat → Option (Nat × Nat)} {id : Nat} {o : PObj} (h : φ' id o.ver = φ id o.ver) : blk φ' id o = blk φ id o := by
  cases o <;> simp only [blk, PObj.ver] at * <;> rw [h]
theorem Rst.notOut (h : Rst E S φ st a w) {id : Nat} {o : PObj} {b : Nat} (ho : find id st.heap = some o) (hb : blk φ id o = some b) : ¬ E.out b := by
  intro hx
  have := E.under b hx
  rcases ((h.objs id o ho).2.2.2.1 b hb).2 with h1 | h1
  · omega
  · exact E.apart b h1 hx
theorem Rst.fewer (h : Rst E S φ st a w) {h' : List (Nat × PObj)} (hs : ∀ id o, find id h' = some o → find id st.heap = some o) : Rst E S φ { st with heap := h' } a w := by
  have hO : ∀ b, b < w.heap.size → Held E φ h' b → Held E φ st.heap b := by
    rintro b _ (hb | ⟨id, o, ho, hb⟩)
    · exact .inl hb
    · exact .inr ⟨id, o, hs id o ho, hb⟩
  refine { h with tmps := ?_, objs := ?_, inj := ?_ }
  · intro t p hp
    obtain ⟨h1, h2⟩ := h.tmps t p hp
    exact ⟨h1, PRep.keep (φ' := φ) ⟨Nat.le_refl _, fun _ _ _ => rfl⟩ hO (fun _ _ _ => rfl) p _ h1 h2⟩
  · intro id o ho
    obtain ⟨h1, h1', h2, h3, h4⟩ := h.objs id o (hs id o ho)
    exact ⟨h1, h1', h2, h3, ORep.keep ⟨Nat.le_refl _, fun _ _ _ => rfl⟩ hO (fun _ _ _ => rfl) h1 h2 (fun _ _ => rfl) h4⟩
  · intro i j oi oj b hi hj; exact h.inj i j oi oj b (hs _ _ hi) (hs _ _ hj)
theorem Rst.set (h : Rst E S φ st a w) {w' : World} {id : Nat} {o' : PObj} {S' : Nat → Nat → Prop} {φ' : Nat → Nat → Option (Nat × Nat)}
    (hos : w'.os = w.os) (htape : w'.tape = w.tape) (hout : w'.output = w.output) (hsize : w.heap.size ≤ w'.heap.size)
    (hblock : ∀ b, b < w.heap.size → (∀ o, find id st.heap = some o → blk φ id o ≠ some b) → w'.heap[b]? = w.heap[b]?)
    (hmono : ∀ i v, S i v → S' i v) (hφ : ∀ i v, S i v → φ' i v = φ i v) (hS : S' id o'.ver) (hSv : ∀ v, S' id v → v ≤ o'.ver) (hSo : ∀ i v, i ≠ id → S' i v → S i v) (hou : o'.und S')
    (hblk : ∀ b, blk φ' id o' = some b → b < w'.heap.size ∧ (w.heap.size ≤ b ∨ ∃ o, find id st.heap = some o ∧ blk φ id o = some b))
    (ho : ORep w' (Held E φ' (upd id o' st.heap)) φ' id o') : Rst E S' φ' { st with heap := upd id o' st.heap } a w' := by
  have hbl : ∀ i o, i ≠ id → find i st.heap = some o → blk φ' i o = blk φ i o := fun i o _ hi => blk_congr (hφ _ _ (h.objs i o hi).1)
  have hO : ∀ b, b < w.heap.size → Held E φ' (upd id o' st.heap) b → Held E φ st.heap b := by
    rintro b hlt (hb | ⟨i, o, hi, hb⟩)
    · exact .inl hb
    · right
      by_cases e : i = id
      · subst e
        rw [find_upd_same] at hi; cases hi
        rcases (hblk b hb).2 with h1 | ⟨o, h1, h2⟩
        · omega
        · exact ⟨i, o, h1, h2⟩
      · rw [find_upd_other e] at hi
        exact ⟨i, o, hi, by rw [← hbl i o e hi]; exact hb⟩
  have hk : Keeps (Held E φ st.heap) w w' := ⟨hsize, fun b hlt hb => hblock b hlt fun o hf he => hb (.inr ⟨id, o, hf, he⟩)⟩
  refine { os := hos.trans h.os, tape := htape.trans h.tape, output := hout.trans h.output, size := Nat.le_trans h.size hsize, old := ?_, defers := h.defers, tmps := ?_, objs := ?_, inj := ?_ }
  · intro b hl hp
    rw [hblock b (Nat.lt_of_lt_of_le hl h.size) fun o hf he => ?_]
    · exact h.old b hl hp
    · rcases ((h.objs id o hf).2.2.2.1 b he).2 with h1 | h1
      · omega
      · exact hp h1
  · intro t p hp
    obtain ⟨h1, h2⟩ := h.tmps t p hp
    exact ⟨PVal.und_mono hmono p h1, PRep.keep hk hO hφ p _ h1 h2⟩
  · intro i x hi
    by_cases e : i = id
    · subst e
      simp only [find_upd_same] at hi; cases hi
      refine ⟨hS, hSv, hou, fun b hb => ⟨(hblk b hb).1, ?_⟩, ho⟩
      rcases (hblk b hb).2 with h1 | ⟨o, h1, h2⟩
      · exact .inl (Nat.le_trans h.size h1)
      · exact ((h.objs i o h1).2.2.2.1 b h2).2
    · simp only [find_upd_other e] at hi
      obtain ⟨h1, h1', h2, h3, h4⟩ := h.objs i x hi
      refine ⟨hmono _ _ h1, fun v hv => h1' v (hSo i v e hv), PObj.und_mono hmono h2, fun b hb => ?_, ORep.keep hk hO hφ h1 h2 (fun b hb => hblock b (h3 b hb).1 fun o hf he => e (h.inj i id x o b hi hf hb he)) h4⟩
      rw [hbl i x e hi] at hb
      exact ⟨Nat.lt_of_lt_of_le (h3 b hb).1 hsize, (h3 b hb).2⟩
  · have key : ∀ i oi b, i ≠ id → find i (upd id o' st.heap) = some oi → blk φ' i oi = some b → b < w.heap.size ∧ find i st.heap = some oi ∧ blk φ i oi = some b := by
      intro i oi b e hi hb
      rw [find_upd_other e] at hi
      rw [hbl i oi e hi] at hb
      exact ⟨((h.objs i oi hi).2.2.2.1 b hb).1, hi, hb⟩
    have one : ∀ j oj b, j ≠ id → blk φ' id o' = some b → find j (upd id o' st.heap) = some oj → blk φ' j oj = some b → False := by
      intro j oj b e hb hj hbj
      obtain ⟨k1, k2, k3⟩ := key j oj b e hj hbj
      rcases (hblk b hb).2 with h1 | ⟨o, h1, h2⟩
      · omega
      · exact e (h.inj j id oj o b k2 h1 k3 h2)
    intro i j oi oj b hi hj hbi hbj
    by_cases ei : i = id
    · by_cases ej : j = id
      · exact ei.trans ej.symm
      · subst ei
        rw [find_upd_same] at hi; cases hi
        exact (one j oj b ej hbi hj hbj).elim
    · by_cases ej : j = id
      · subst ej
        rw [find_upd_same] at hj; cases hj
        exact (one i oi b ei hbj hi hbi).elim
      · obtain ⟨_, k2, k3⟩ := key i oi b ei hi hbi
        obtain ⟨_, k5, k6⟩ := key j oj b ej hj hbj
        exact h.inj i j oi oj b k2 k5 k3 k6
end
end Go.Proofs.Ytdodgbhodkcckaa.Pv
end
section
set_option linter.unusedVariables false
set_option linter.unusedSimpArgs false
set_option autoImplicit false
namespace Go.Proofs.Ytdodgbhodkcckaa.Pv
open Go Go.RowKit
def EqOK (P : Program) (t : Nat) (ks : List CK) : Prop := ∀ (xs ys : List Value) (r : Bool), cellsEq ks (xs.map .v) (ys.map .v) = some r → ∀ (w : World) (op : BinOp) (x y : Operand),
  (eqGuard op t x y (.agg xs.toArray) (.agg ys.toArray)).run P w = .ok () w ∧ (Op.equalIn 10000 t (.agg xs.toArray) (.agg ys.toArray)).run P w = .ok r w
def KeyOK (P : Program) (t : Nat) (ks : List CK) : Prop := ∀ (xs : List Value) (r : Bool), cellsEq ks (xs.map .v) (xs.map .v) = some r → ∀ (w : World) (em : Bool), (Instr.checkKey em 10000 t (.agg xs.toArray)).run P w = .ok () w
structure Kit (P : Program) (T : Nat → Option TI) (eqt : Nat → Option (List CK)) : Prop where
  tb : TbOK P T
  eq : ∀ t ks, eqt t = some ks → EqOK P t ks
  key : ∀ t ks, eqt t = some ks → KeyOK P t ks
section
variable {w : World} {O : Nat → Prop} {φ : Nat → Nat → Option (Nat × Nat)} {p : PVal} {c : Value}
theorem asInt_rep {k : IntKind} {n : Int} (h : asInt p = some (k, n)) (hr : PRep w O φ p c) : c = .int k n := by
  unfold asInt at h; split at h
  · simp only [PRep, DRep] at hr; cases h; exact hr
  · cases h
theorem asBool_rep {b : Bool} (h : asBool p = some b) (hr : PRep w O φ p c) : c = .bool b := by
  unfold asBool at h; split at h
  · simp only [PRep, DRep] at hr; cases h; exact hr
  · cases h
theorem asStr_rep {s : ByteArray} (h : asStr p = some s) (hr : PRep w O φ p c) : c = .string s := by
  unfold asStr at h; split at h
  · simp only [PRep, DRep] at hr; cases h; exact hr
  · cases h
theorem asSlc_rep {s : Nat} {els : List D} (h : asSlc s p = some els) (hr : PRep w O φ p c) : ∃ a cap, c = .slice a els.length cap ∧ els.length ≤ cap ∧
    (els = [] ∨ ∃ b off, a = some ⟨b, off, none⟩ ∧ ¬ O b ∧ b < w.heap.size ∧ DRepE w O b s els off) := by
  unfold asSlc at h; split at h
  · split at h
    · rename_i e; subst e; cases h
      simpa only [PRep, DRep] using hr
    · cases h
  · cases h
    simp only [PRep, DRep] at hr
    exact ⟨_, _, by rw [hr]; rfl, by simp, .inl rfl⟩
  · cases h
end
theorem intOp_run {P : Program} {op : BinOp} {k k' : IntKind} {a b : Int} {v : Value} {pre : Prop} (h : intOp op k k' a b = some (v, pre)) (hp : pre) (t : Nat) (w : World) :
    (binOp op t (.int k a) (.int k' b)).run P w = .ok v w := by
  cases op <;> simp only [intOp] at h <;>
    first
    | (cases h
       simp only [binOp, Op.shift]
       have : ¬ b < 0 := by omega
       simp [this]; done)
    | (split at h
       · rename_i e; subst e
         first
         | (cases h; done)
         | (simp only [Option.some.injEq, Prod.mk.injEq] at h
            obtain ⟨rfl, rfl⟩ := h
            first
            | (simp [binOp, Op.intArith]; done)
            | (simp [binOp, Op.intCmp]; done)
            | (simp [binOp, Op.intBits]; done)
            | (simp [binOp, Op.intDiv, hp]; done))
       · cases h)
theorem strOp_run {P : Program} {op : BinOp} {a b : ByteArray} {v : Value} {pre : Prop} (h : strOp op a b = some (v, pre)) (hp : pre) (t : Nat) (w : World) :
    (binOp op t (.string a) (.string b)).run P w = .ok v w := by
  cases op <;> simp only [strOp] at h <;> first
    | (cases h; done)
    | (simp only [Option.some.injEq, Prod.mk.injEq] at h
       obtain ⟨rfl, rfl⟩ := h
       first
       | (simp [binOp, Op.stringOp]; done)
       | (simp only [binOp, Op.stringOp]
          have : ¬ (((a.size + b.size : Nat) : Int) > IntKind.i64.max) := by simp [IntKind.max, IntKind.bits, IntKind.signed]; omega
          simp only [this, if_false]; rfl))
theorem eqGuard_int {P : Program} (op : BinOp) (t : Nat) (x y : Operand) (k k' : IntKind) (a b : Int) (w : World) : (eqGuard op t x y (.int k a) (.int k' b)).run P w = .ok () w := by
  cases op <;> simp [eqGuard]
theorem eqGuard_str {P : Program} (op : BinOp) (t : Nat) (x y : Operand) (a b : ByteArray) (w : World) : (eqGuard op t x y (.string a) (.string b)).run P w = .ok () w := by
  cases op <;> simp [eqGuard]
theorem eqGuard_bool {P : Program} (op : BinOp) (t : Nat) (x y : Operand) (a b : Bool) (w : World) : (eqGuard op t x y (.bool a) (.bool b)).run P w = .ok () w := by
  cases op <;> simp [eqGuard]
theorem bool_run {P : Program} {t : Nat} (hu : P.underlying t = some .bool) (a b : Bool) (w : World) :
    (binOp .eql t (.bool a) (.bool b)).run P w = .ok (.bool (a == b)) w ∧ (binOp .neq t (.bool a) (.bool b)).run P w = .ok (.bool (!(a == b))) w := by
  constructor <;> simp [binOp, Op.equal, Op.maxDepth, run_equalIn_bool w 9999 t a b hu]
theorem cellsEq_vals {w : World} {O : Nat → Prop} : ∀ {ks : List CK} {ds es : List D} {xs ys : List Value} {r : Bool}, cellsEq ks ds es = some r → DRepL w O ds xs → DRepL w O es ys → ds = xs.map .v ∧ es = ys.map .v
  | [], [], [], xs, ys, r, h, h1, h2 => by simp only [DRepL] at h1 h2; simp [h1, h2]
  | [], [], e :: es, xs, ys, r, h, h1, h2 => by simp [cellsEq] at h
  | [], d :: ds, es, xs, ys, r, h, h1, h2 => by simp [cellsEq] at h
  | k :: ks, [], es, xs, ys, r, h, h1, h2 => by simp [cellsEq] at h
  | k :: ks, d :: ds, [], xs, ys, r, h, h1, h2 => by simp [cellsEq] at h
  | k :: ks, d :: ds, e :: es, xs, ys, r, h, h1, h2 => by
    simp only [DRepL] at h1 h2
    obtain ⟨c, cs, rfl, g1, g2⟩ := h1
    obtain ⟨c', cs', rfl, g3, g4⟩ := h2
    have key : (∃ q, cellEq k d e = some q) ∧ ((ks = [] ∧ ds = [] ∧ es = []) ∨ ∃ q, cellsEq ks ds es = some q) := by
      unfold cellsEq at h
      split at h
      · rename_i h1 h2 h3; cases h1
      · rename_i h1 h2 h3
        simp only [List.cons.injEq] at h1 h2 h3
        obtain ⟨rfl, rfl⟩ := h1
        obtain ⟨rfl, rfl⟩ := h2
        obtain ⟨rfl, rfl⟩ := h3
        exact ⟨⟨r, h⟩, .inl ⟨rfl, rfl, rfl⟩⟩
      · rename_i h1 h2 h3
        simp only [List.cons.injEq] at h1 h2 h3
        obtain ⟨rfl, rfl⟩ := h1
        obtain ⟨rfl, rfl⟩ := h2
        obtain ⟨rfl, rfl⟩ := h3
        split at h
        · rename_i x y hx hy; exact ⟨⟨x, hx⟩, .inr ⟨y, hy⟩⟩
        · cases h
      · cases h
    obtain ⟨⟨q, hq⟩, hrest⟩ := key
    have hv : d = .v c ∧ e = .v c' := by
      unfold cellEq at hq
      split at hq <;> first
        | (simp only [DRep] at g1 g3; subst g1; subst g3; exact ⟨rfl, rfl⟩)
        | cases hq
    obtain ⟨rfl, rfl⟩ := hv
    rcases hrest with ⟨rfl, rfl, rfl⟩ | ⟨q2, hq2⟩
    · simp only [DRepL] at g2 g4; subst g2; subst g4; simp
    · have := cellsEq_vals hq2 g2 g4
      simp [this.1, this.2]
theorem Keeps.same (O : Nat → Prop) (w : World) : Keeps O w w := ⟨Nat.le_refl _, fun _ _ _ => rfl⟩
section
variable {w w' : World} {O O' : Nat → Prop}
mutual
theorem DRep.flat : ∀ (d : D) (c : Value), d.flat = true → DRep w O d c → DRep w' O' d c
  | .v x, c, _, h => by simpa only [DRep] using h
  | .agg ds, c, hf, h => by
    simp only [DRep, D.flat] at h hf ⊢
    obtain ⟨cs, e, h⟩ := h
    exact ⟨cs, e, DRepL.flat ds cs hf h⟩
  | .tup ds, c, hf, h => by
    simp only [DRep, D.flat] at h hf ⊢
    obtain ⟨cs, e, h⟩ := h
    exact ⟨cs, e, DRepL.flat ds cs hf h⟩
  | .slc s es, c, hf, h => by simp [D.flat] at hf
  | .ifc t p, c, hf, h => by simp [D.flat] at hf
  | .fn f a b, c, hf, h => by simp [D.flat] at hf
  | .ptr _, c, hf, h => by simp [D.flat] at hf
theorem DRepL.flat : ∀ (ds : List D) (cs : List Value), flatL ds = true → DRepL w O ds cs → DRepL w' O' ds cs
  | [], cs, _, h => by simpa only [DRepL] using h
  | d :: ds, cs, hf, h => by
    simp only [DRepL, flatL, Bool.and_eq_true] at h hf ⊢
    obtain ⟨c, cs', e, h1, h2⟩ := h
    exact ⟨c, cs', e, DRep.flat d c hf.1 h1, DRepL.flat ds cs' hf.2 h2⟩
end
end
theorem dataL_rep {w : World} {O : Nat → Prop} {φ : Nat → Nat → Option (Nat × Nat)} : ∀ {ps : List PVal} {ds : List D} {cs : List Value}, dataL ps = some ds → PRepL w O φ ps cs → DRepL w O ds cs
  | [], ds, cs, h, hr => by simp only [dataL, Option.some.injEq] at h; subst h; simpa only [PRepL, DRepL] using hr
  | p :: ps, ds, cs, h, hr => by
    simp only [dataL] at h
    split at h
    · rename_i x xs hx
      simp only [Option.some.injEq] at h; subst h
      simp only [PRepL, PRep] at hr
      obtain ⟨c, cs', rfl, h1, h2⟩ := hr
      simp only [DRepL]
      exact ⟨c, cs', rfl, h1, dataL_rep hx h2⟩
    · cases h
section
variable {w : World} {O O' : Nat → Prop} {φ : Nat → Nat → Option (Nat × Nat)} {h : List (Nat × PObj)}
mutual
theorem toD_rep (hobj : ∀ id o, find id h = some o → ORep w O φ id o ∧ ∀ b, blk φ id o = some b → b < w.heap.size) (hO : ∀ b, O' b → O b) : ∀ (p : PVal) (d : D) (c : Value), p.toD h = some d →
    (∀ id o b, id ∈ p.ids → find id h = some o → blk φ id o = some b → ¬ O' b) → PRep w O φ p c → DRep w O' d c
  | .d x, d, c, hd, _, hr => by
    simp only [PVal.toD, Option.some.injEq] at hd; subst hd
    simp only [PRep] at hr
    exact DRep.keep (Keeps.same _ _) (fun b _ => hO b) x c hr
  | .agg ps, d, c, hd, hx, hr => by
    simp only [PVal.toD, Option.map_eq_some_iff] at hd
    obtain ⟨ds, hds, rfl⟩ := hd
    simp only [PRep] at hr
    obtain ⟨cs, rfl, hr⟩ := hr
    simp only [DRep]
    exact ⟨cs, rfl, toDL_rep hobj hO ps ds cs hds (fun id o b hm => hx id o b (by simpa only [PVal.ids] using hm)) hr⟩
  | .tup ps, d, c, hd, hx, hr => by
    simp only [PVal.toD, Option.map_eq_some_iff] at hd
    obtain ⟨ds, hds, rfl⟩ := hd
    simp only [PRep] at hr
    obtain ⟨cs, rfl, hr⟩ := hr
    simp only [DRep]
    exact ⟨cs, rfl, toDL_rep hobj hO ps ds cs hds (fun id o b hm => hx id o b (by simpa only [PVal.ids] using hm)) hr⟩
  | .own id ver s off len, d, c, hd, hx, hr => by
    simp only [PVal.toD] at hd
    split at hd
    · rename_i e' s' ver' room els hf
      split at hd
      · rename_i hc
        obtain ⟨rfl, rfl, hlen⟩ := hc
        simp only [Option.some.injEq] at hd; subst hd
        simp only [PRep] at hr
        have hln : ((els.drop off).take len).length = len := by simp; omega
        simp only [DRep, hln]
        rcases hr with ⟨_, _, rfl, rfl⟩ | ⟨b, n, ad, hφ, hle, rfl, had⟩
        · exact ⟨none, 0, rfl, Nat.le_refl _, .inl (by simp)⟩
        · refine ⟨ad, n - off, rfl, by omega, ?_⟩
          by_cases h0 : len = 0
          · left; subst h0; simp
          · right
            obtain rfl := had.resolve_left (by omega)
            have ho := hobj id _ hf
            simp only [ORep, blk] at ho
            obtain ⟨h1, h4⟩ := ho
            obtain ⟨b', n', cs, g1, g2, g3, g3', g4, g5, g6⟩ := h1.resolve_left (by intro hh; rw [hh.1] at hφ; cases hφ)
            rw [hφ] at g1
            simp only [Option.some.injEq, Prod.mk.injEq] at g1
            obtain ⟨rfl, rfl⟩ := g1
            refine ⟨b, off * s, rfl, hx id _ b (by simp [PVal.ids]) hf (by simp [blk, hφ]), h4 b (by rw [hφ]; rfl), ?_⟩
            have := (g6.drop off).take len
            rw [Nat.zero_add] at this
            exact DRepE.keep (Keeps.same _ _) (fun b _ => hO b) rfl _ _ this
      · cases hd
    · cases hd
  | .clo f a b, d, c, hd, hx, hr => by
    simp only [PVal.toD] at hd
    split at hd
    · rename_i x y hx1 hy1
      simp only [Option.some.injEq] at hd; subst hd
      simp only [PRep] at hr
      obtain ⟨u, v, rfl, h1, h2⟩ := hr
      simp only [DRep]
      exact ⟨u, v, rfl, toDL_rep hobj hO a x u hx1 (fun id o b hm => hx id o b (by simp only [PVal.ids, List.mem_append]; exact .inl hm)) h1,
        toDL_rep hobj hO b y v hy1 (fun id o b hm => hx id o b (by simp only [PVal.ids, List.mem_append]; exact .inr hm)) h2⟩
    · cases hd
  | .ifc t p, d, c, hd, hx, hr => by
    simp only [PVal.toD, Option.map_eq_some_iff] at hd
    obtain ⟨x, hxd, rfl⟩ := hd
    simp only [PRep] at hr
    obtain ⟨u, rfl, hr⟩ := hr
    simp only [DRep]
    exact ⟨u, rfl, toD_rep hobj hO p x u hxd (fun id o b hm => hx id o b (by simpa only [PVal.ids] using hm)) hr⟩
  | .ref id k, d, c, hd, hx, hr => by
    simp only [PVal.toD] at hd
    split at hd
    · rename_i cells hf
      obtain ⟨ds, hds, rfl⟩ := Option.map_eq_some_iff.1 hd
      simp only [PRep] at hr
      obtain ⟨b, n, hb, rfl⟩ := hr
      have ho := hobj id _ hf
      simp only [ORep, blk] at ho
      obtain ⟨⟨b', n', cs, ty, g1, g2, g3⟩, h4⟩ := ho
      rw [hb] at g1
      simp only [Option.some.injEq, Prod.mk.injEq] at g1
      obtain ⟨rfl, rfl⟩ := g1
      simp only [DRep]
      refine ⟨b, k, cs.drop k, rfl, hx id _ b (by simp [PVal.ids]) hf (by simp [blk, hb]), h4 b (by rw [hb]; rfl), ?_, ?_⟩
      · exact DRepL.drop (DRepL.keep (Keeps.same _ _) (fun b _ => hO b) _ _ (dataL_rep hds g3)) k
      · have := (CellsAt.row g2).drop k
        rwa [Nat.zero_add] at this
    · cases hd
  | .refE _ _ _ _ _, d, c, hd, _, _ => by simp [PVal.toD] at hd
  | .mp _, d, c, hd, _, _ => by simp [PVal.toD] at hd
  | .gd _ _, d, c, hd, _, _ => by simp [PVal.toD] at hd
  | .dead, d, c, hd, _, _ => by simp [PVal.toD] at hd
theorem toDL_rep (hobj : ∀ id o, find id h = some o → ORep w O φ id o ∧ ∀ b, blk φ id o = some b → b < w.heap.size) (hO : ∀ b, O' b → O b) : ∀ (ps : List PVal) (ds : List D) (cs : List Value), toDL h ps = some ds →
    (∀ id o b, id ∈ idsL ps → find id h = some o → blk φ id o = some b → ¬ O' b) → PRepL w O φ ps cs → DRepL w O' ds cs
  | [], ds, cs, hd, _, hr => by
    simp only [toDL, Option.some.injEq] at hd; subst hd
    simpa only [PRepL, DRepL] using hr
  | p :: ps, ds, cs, hd, hx, hr => by
    simp only [toDL] at hd
    split at hd
    · rename_i x xs hx1 hx2
      simp only [Option.some.injEq] at hd; subst hd
      simp only [PRepL] at hr
      obtain ⟨c, cs', rfl, h1, h2⟩ := hr
      simp only [DRepL]
      exact ⟨c, cs', rfl, toD_rep hobj hO p x c hx1 (fun id o b hm => hx id o b (by simp only [idsL, List.mem_append]; exact .inl hm)) h1,
        toDL_rep hobj hO ps xs cs' hx2 (fun id o b hm => hx id o b (by simp only [idsL, List.mem_append]; exact .inr hm)) h2⟩
    · cases hd
end
end
section
variable {P : Program} {T : Nat → Option TI} {eqt : Nat → Option (List CK)} (hk : Kit P T eqt) {w : World} {O : Nat → Prop} {φ : Nat → Nat → Option (Nat × Nat)} {h : List (Nat × PObj)}
theorem eql_of {t : Nat} {x y : Value} {r : Bool} (hop : ∀ op, binOp op t x y = match op with | .eql => (do pure (.bool (← Op.equal t x y))) | .neq => (do pure (.bool (!(← Op.equal t x y)))) | _ => binOp op t x y)
    (hg : ∀ op ox oy, (eqGuard op t ox oy x y).run P w = .ok () w) (he : (Op.equalIn (9999 + 1) t x y).run P w = .ok r w) (ox oy : Operand) :
    (do eqGuard .eql t ox oy x y; binOp .eql t x y : Sem Value).run P w = .ok (.bool r) w ∧ (do eqGuard .neq t ox oy x y; binOp .neq t x y : Sem Value).run P w = .ok (.bool (!r)) w := by
  have he' : (Op.equal t x y).run P w = .ok r w := he
  constructor
  · rw [Sem.run_bind, hg, Result.andThen_ok, hop .eql]; simp [he']
  · rw [Sem.run_bind, hg, Result.andThen_ok, hop .neq]; simp [he']
inductive NilV (P : Program) (t : Nat) : Bool → Value → Prop where
  | f0 {a b c} : P.underlying t = some (.func a b c) → NilV P t true .nilFunc
  | f1 {a b c} (f : Fn) (u v : Array Value) : P.underlying t = some (.func a b c) → NilV P t false (.func f u v)
  | p0 {e} : P.underlying t = some (.pointer e) → NilV P t true (.pointer none)
  | p1 {e} (a : Addr) : P.underlying t = some (.pointer e) → NilV P t false (.pointer (some a))
  | s0 {e} (n m : Nat) : P.underlying t = some (.slice e) → NilV P t true (.slice none n m)
  | s1 {e} (a : Addr) (n m : Nat) : P.underlying t = some (.slice e) → NilV P t false (.slice (some a) n m)
  | m0 {e u} : P.underlying t = some (.map e u) → NilV P t true (.map none)
  | m1 {e u} (r : Nat) : P.underlying t = some (.map e u) → NilV P t false (.map (some r))
theorem isNil_rep {k : TK} {t : Nat} (hd : DescOK P t k) {p : PVal} {b : Bool} {c : Value} (hn : isNil k p = some b) (hr : PRep w O φ p c) : NilV P t b c := by
  unfold isNil at hn
  split at hn <;> first
    | (cases hn; done)
    | (cases hn
       simp only [PRep, DRep, DescOK] at hr hd
       first
       | (obtain ⟨_, _, _, hu⟩ := hd; subst hr; exact .f0 hu)
       | (obtain ⟨_, _, _, hu⟩ := hd; subst hr; exact .f1 _ _ _ hu)
       | (obtain ⟨_, _, _, hu⟩ := hd; obtain ⟨u, v, rfl, _⟩ := hr; exact .f1 _ _ _ hu)
       | (subst hr; exact .p0 hd)
       | (obtain ⟨b', _, _, rfl⟩ := hr; exact .p1 _ hd)
       | (obtain ⟨b', off, cs, rfl, _⟩ := hr; exact .p1 _ hd)
       | (subst hr; exact .s0 _ _ hd)
       | (subst hr; exact .s1 _ _ _ hd)
       | (obtain ⟨a, cap, rfl, _, hE⟩ := hr; obtain ⟨b', off, rfl, _⟩ := hE.resolve_left (by simp); exact .s1 _ _ _ hd)
       | (subst hr; exact .m0 hd)
       | (obtain ⟨b', _, _, rfl⟩ := hr; exact .m1 _ hd))
theorem NilV.eq {t : Nat} {a b : Bool} {x y : Value} (hx : NilV P t a x) (hy : NilV P t b y) (h : a = true ∨ b = true) (d : Nat) : (Op.equalIn (d + 1) t x y).run P w = .ok (a && b) w := by
  cases hx with
  | f0 hu =>
    cases hy with
    | f0 _ => simp only [Op.equalIn, Sem.run_bind, run_underlying hu, Result.andThen_ok]; rfl
    | f1 f u v _ => simp only [Op.equalIn, Sem.run_bind, run_underlying hu, Result.andThen_ok]; rfl
    | _ => exfalso; first | (rename_i hv; rw [hu] at hv; cases hv; done) | (rename_i hv _; rw [hu] at hv; cases hv; done)
  | f1 f u v hu =>
    cases hy with
    | f0 _ => simp only [Op.equalIn, Sem.run_bind, run_underlying hu, Result.andThen_ok]; rfl
    | f1 f u v _ => simp at h
    | _ => exfalso; first | (rename_i hv; rw [hu] at hv; cases hv; done) | (rename_i hv _; rw [hu] at hv; cases hv; done)
  | p0 hu =>
    cases hy with
    | p0 _ => simp only [Op.equalIn, Sem.run_bind, run_underlying hu, Result.andThen_ok]; rfl
    | p1 a _ => simp only [Op.equalIn, Sem.run_bind, run_underlying hu, Result.andThen_ok]; rfl
    | _ => exfalso; first | (rename_i hv; rw [hu] at hv; cases hv; done) | (rename_i hv _; rw [hu] at hv; cases hv; done)
  | p1 ad hu =>
    cases hy with
    | p0 _ => simp only [Op.equalIn, Sem.run_bind, run_underlying hu, Result.andThen_ok]; rfl
    | p1 a _ => simp at h
    | _ => exfalso; first | (rename_i hv; rw [hu] at hv; cases hv; done) | (rename_i hv _; rw [hu] at hv; cases hv; done)
  | s0 n m hu =>
    cases hy with
    | s0 n m _ => simp only [Op.equalIn, Sem.run_bind, run_underlying hu, Result.andThen_ok]; rfl
    | s1 a n m _ => simp only [Op.equalIn, Sem.run_bind, run_underlying hu, Result.andThen_ok]; rfl
    | _ => exfalso; first | (rename_i hv; rw [hu] at hv; cases hv; done) | (rename_i hv _; rw [hu] at hv; cases hv; done)
  | s1 ad n m hu =>
    cases hy with
    | s0 n m _ => simp only [Op.equalIn, Sem.run_bind, run_underlying hu, Result.andThen_ok]; rfl
    | s1 a n m _ => simp at h
    | _ => exfalso; first | (rename_i hv; rw [hu] at hv; cases hv; done) | (rename_i hv _; rw [hu] at hv; cases hv; done)
  | m0 hu =>
    cases hy with
    | m0 _ => simp only [Op.equalIn, Sem.run_bind, run_underlying hu, Result.andThen_ok]; rfl
    | m1 r _ => simp only [Op.equalIn, Sem.run_bind, run_underlying hu, Result.andThen_ok]; rfl
    | _ => exfalso; first | (rename_i hv; rw [hu] at hv; cases hv; done) | (rename_i hv _; rw [hu] at hv; cases hv; done)
  | m1 r hu =>
    cases hy with
    | m0 _ => simp only [Op.equalIn, Sem.run_bind, run_underlying hu, Result.andThen_ok]; rfl
    | m1 r _ => simp at h
    | _ => exfalso; first | (rename_i hv; rw [hu] at hv; cases hv; done) | (rename_i hv _; rw [hu] at hv; cases hv; done)
theorem NilV.run {t : Nat} {a b : Bool} {x y : Value} (hx : NilV P t a x) (hy : NilV P t b y) (h : a = true ∨ b = true) (ox oy : Operand) :
    (do eqGuard .eql t ox oy x y; binOp .eql t x y : Sem Value).run P w = .ok (.bool (a && b)) w ∧ (do eqGuard .neq t ox oy x y; binOp .neq t x y : Sem Value).run P w = .ok (.bool (!(a && b))) w := by
  refine eql_of ?_ ?_ (NilV.eq hx hy h 9999) ox oy
  · intro op; cases hx <;> cases op <;> rfl
  · intro op ox oy; cases hx <;> cases op <;> simp [eqGuard]
theorem nilP_run {k : TK} {t : Nat} (hd : DescOK P t k) {op : BinOp} {x y q : PVal} {pre : Prop} {cx cy : Value} (hb : nilP k op x y = some (q, pre)) (hx : PRep w O φ x cx) (hy : PRep w O φ y cy) (ox oy : Operand) :
    ∃ c, (do eqGuard op t ox oy cx cy; binOp op t cx cy : Sem Value).run P w = .ok c w ∧ q = .d (.v c) := by
  unfold nilP at hb
  split at hb <;> first
    | (cases hb; done)
    | (rename_i b h1 h2
       have g := NilV.run (w := w) (isNil_rep hd h1 hx) (isNil_rep hd h2 hy) (by first | exact .inl rfl | exact .inr rfl) ox oy
       simp only [Option.some.injEq, Prod.mk.injEq] at hb
       obtain ⟨rfl, _⟩ := hb
       simp only [Bool.and_true, Bool.true_and] at g
       first | exact ⟨_, g.1, rfl⟩ | exact ⟨_, g.2, rfl⟩)
include hk in
theorem recP_run (hobj : ∀ id o, find id h = some o → ORep w O φ id o ∧ ∀ b, blk φ id o = some b → b < w.heap.size) {op : BinOp} {t : Nat} {ks : List CK} {x y q : PVal} {pre : Prop} {cx cy : Value} (he : eqt t = some ks)
    (hb : recP ks op (x.toD h) (y.toD h) = some (q, pre)) (hx : PRep w O φ x cx) (hy : PRep w O φ y cy) (ox oy : Operand) :
    ∃ c, (do eqGuard op t ox oy cx cy; binOp op t cx cy : Sem Value).run P w = .ok c w ∧ q = .d (.v c) := by
  unfold recP at hb
  split at hb
  · rename_i xs ys h1 h2
    have g1 := toD_rep (O' := fun _ => False) hobj (fun _ h => h.elim) x _ cx h1 (fun _ _ _ _ _ _ h => h) hx
    have g2 := toD_rep (O' := fun _ => False) hobj (fun _ h => h.elim) y _ cy h2 (fun _ _ _ _ _ _ h => h) hy
    simp only [DRep] at g1 g2
    obtain ⟨us, rfl, g1⟩ := g1
    obtain ⟨vs, rfl, g2⟩ := g2
    split at hb
    · rename_i r hr
      simp only [Option.some.injEq, Prod.mk.injEq] at hb
      obtain ⟨rfl, _⟩ := hb
      obtain ⟨rfl, rfl⟩ := cellsEq_vals hr g1 g2
      obtain ⟨e1, e2⟩ := hk.eq t _ he us vs r hr w .eql ox oy
      refine ⟨.bool r, ?_, rfl⟩
      rw [Sem.run_bind, e1, Result.andThen_ok, run_eql_struct, e2]; rfl
    · rename_i r hr
      simp only [Option.some.injEq, Prod.mk.injEq] at hb
      obtain ⟨rfl, _⟩ := hb
      obtain ⟨rfl, rfl⟩ := cellsEq_vals hr g1 g2
      obtain ⟨e1, e2⟩ := hk.eq t _ he us vs r hr w .neq ox oy
      refine ⟨.bool (!r), ?_, rfl⟩
      rw [Sem.run_bind, e1, Result.andThen_ok, run_neq_struct, e2]; rfl
    · cases hb
  · cases hb
include hk in
theorem binP_run (hobj : ∀ id o, find id h = some o → ORep w O φ id o ∧ ∀ b, blk φ id o = some b → b < w.heap.size) {op : BinOp} {t : Nat} {x y q : PVal} {pre : Prop} {cx cy : Value}
    (hb : binP T eqt h op t x y = some (q, pre)) (hp : pre) (hx : PRep w O φ x cx) (hy : PRep w O φ y cy) (ox oy : Operand) :
    ∃ c, (do eqGuard op t ox oy cx cy; binOp op t cx cy : Sem Value).run P w = .ok c w ∧ q = .d (.v c) := by
  unfold binP at hb
  split at hb
  · rename_i k a k' b h1 h2
    rw [asInt_rep h1 hx, asInt_rep h2 hy]
    cases hi : intOp op k k' a b with
    | none => simp [hi] at hb
    | some r =>
      obtain ⟨v, pr⟩ := r
      simp only [hi, Option.map_some, Option.some.injEq, Prod.mk.injEq] at hb
      obtain ⟨rfl, rfl⟩ := hb
      refine ⟨v, ?_, rfl⟩
      rw [Sem.run_bind, eqGuard_int, Result.andThen_ok, intOp_run hi hp]
  · split at hb
    · rename_i a b h1 h2
      rw [asStr_rep h1 hx, asStr_rep h2 hy]
      cases hi : strOp op a b with
      | none => simp [hi] at hb
      | some r =>
        obtain ⟨v, pr⟩ := r
        simp only [hi, Option.map_some, Option.some.injEq, Prod.mk.injEq] at hb
        obtain ⟨rfl, rfl⟩ := hb
        refine ⟨v, ?_, rfl⟩
        rw [Sem.run_bind, eqGuard_str, Result.andThen_ok, strOp_run hi hp]
    · split at hb
      · rename_i hk'
        have hu : P.underlying t = some .bool := desc_of hk.tb hk'
        split at hb
        · rename_i a b h1 h2
          rw [asBool_rep h1 hx, asBool_rep h2 hy]
          simp only [Option.some.injEq, Prod.mk.injEq] at hb
          obtain ⟨rfl, _⟩ := hb
          exact ⟨_, by rw [Sem.run_bind, eqGuard_bool, Result.andThen_ok]; exact (bool_run hu a b w).1, rfl⟩
        · rename_i a b h1 h2
          rw [asBool_rep h1 hx, asBool_rep h2 hy]
          simp only [Option.some.injEq, Prod.mk.injEq] at hb
          obtain ⟨rfl, _⟩ := hb
          exact ⟨_, by rw [Sem.run_bind, eqGuard_bool, Result.andThen_ok]; exact (bool_run hu a b w).2, rfl⟩
        · cases hb
      · split at hb
        · rename_i he
          exact recP_run hk hobj he hb hx hy ox oy
        · cases hb
      · split at hb
        · rename_i he
          exact recP_run hk hobj he hb hx hy ox oy
        · cases hb
      · rename_i k hk'
        exact nilP_run (desc_of hk.tb hk') hb hx hy ox oy
      · cases hb
end
end Go.Proofs.Ytdodgbhodkcckaa.Pv
end
section
set_option linter.unusedVariables false
set_option linter.unusedSimpArgs false
set_option autoImplicit false
namespace Go.Proofs.Ytdodgbhodkcckaa.Pv
open Go Go.RowKit
theorem run_v {P : Program} {w w' : World} {s : Sem Value} {c : Value} (h : s.run P w = .ok c w') : (do pure (.value (← s)) : Sem Next).run P w = .ok (.value c) w' := by
  rw [Sem.run_bind, h]; rfl
section
variable {P : Program} {T : Nat → Option TI} {eqt : Nat → Option (List CK)} (hk : Kit P T eqt) {w : World} {O : Nat → Prop} {φ : Nat → Nat → Option (Nat × Nat)}
theorem ofCells_rep {n : Nat} {m : Nat → Nat → Prop} {agg : Bool} {cells : List PVal} {p : PVal} {cs : List Value} (ho : ofCells n agg cells = some p) (hr : PRepL w O φ cells cs) (hu : undL m cells) :
    p.und m ∧ ((agg = true ∧ n ≤ cs.length ∧ PRep w O φ p (.agg (cs.take n).toArray)) ∨ (agg = false ∧ ∃ c, cs[0]? = some c ∧ PRep w O φ p c)) := by
  unfold ofCells at ho
  cases agg with
  | true =>
    simp only [if_true] at ho
    split at ho
    · rename_i hn
      cases ho
      refine ⟨by simp only [PVal.und]; exact undL_take hu n, .inl ⟨rfl, by rw [hr.length]; exact hn, ?_⟩⟩
      simp only [PRep]
      exact ⟨_, rfl, hr.take n⟩
    · cases ho
  | false =>
    simp only [Bool.false_eq_true, if_false] at ho
    have h0 : cells[0]? = some p := by rw [← ho, List.head?_eq_getElem?]
    exact ⟨undL_get hu h0, .inr ⟨rfl, hr.get h0⟩⟩
include hk in
theorem loadVar_run {t : Nat} {ti : TI} (ht : T t = some ti) (hkn : ti.kind.known = true) {b off : Nat} {m : Nat → Nat → Prop} {cells : List PVal} {p : PVal} {cs : List Value} (hc : CellsAt w b off cs) (ho : ofCells ti.size ti.kind.isAgg cells = some p)
    (hr : PRepL w O φ cells cs) (hu : undL m cells) : ∃ c, (loadVar t ⟨b, off, none⟩).run P w = .ok c w ∧ p.und m ∧ PRep w O φ p c := by
  obtain ⟨h1, h2⟩ := ofCells_rep ho hr hu
  rcases h2 with ⟨ha, hn, h3⟩ | ⟨ha, c, h3, h4⟩
  · refine ⟨_, ?_, h1, h3⟩
    have hl := (hc.take ti.size).run (P := P)
    rw [List.length_take, Nat.min_eq_left hn] at hl
    simp only [loadVar, Sem.run_bind, run_isAgg_T hk.tb ht hkn, Result.andThen_ok, ha, if_true, run_sizeOf_T hk.tb ht, hl, Sem.run_pure]
  · refine ⟨c, ?_, h1, h4⟩
    obtain ⟨hlt, e⟩ := List.getElem?_eq_some_iff.1 h3
    have := hc 0 hlt
    simp only [Nat.add_zero, e] at this
    simp only [loadVar, Sem.run_bind, run_isAgg_T hk.tb ht hkn, Result.andThen_ok, ha, Bool.false_eq_true, if_false, run_load, this]
def ObjsOK (w : World) (O : Nat → Prop) (φ : Nat → Nat → Option (Nat × Nat)) (n : Nat → Nat → Prop) (h : List (Nat × PObj)) : Prop :=
  ∀ id o, find id h = some o → ORep w O φ id o ∧ o.und n ∧ ∀ b, blk φ id o = some b → b < w.heap.size
theorem Rst.objsOK {E : Env} {S : Nat → Nat → Prop} {st : St} {a : Act} (h : Rst E S φ st a w) : ObjsOK w (Held E φ st.heap) φ S st.heap :=
  fun id o ho => ⟨(h.objs id o ho).2.2.2.2, (h.objs id o ho).2.2.1, fun b hb => ((h.objs id o ho).2.2.2.1 b hb).1⟩
include hk in
theorem loadP_run {S : Nat → Nat → Prop} {st : St} {t : Nat} {x p : PVal} {c : Value} (hobj : ObjsOK w O φ S st.heap) (hl : loadP T st t x = some p) (hx : PRep w O φ x c) :
    ∃ v, (Instr.loadAt t c).run P w = .ok v w ∧ p.und S ∧ PRep w O φ p v := by
  unfold loadP at hl
  split at hl
  · cases hl
  · rename_i ti ht
    split at hl
    · rename_i hkn
      split at hl
      · rename_i id k
        simp only [PRep] at hx
        obtain ⟨b, nn, hb, rfl⟩ := hx
        split at hl
        · rename_i cells hf
          obtain ⟨ho, hu, _⟩ := hobj id _ hf
          simp only [ORep, PObj.und] at ho hu
          obtain ⟨b', n', cs, ty, g1, g2, g3⟩ := ho
          rw [hb] at g1
          simp only [Option.some.injEq, Prod.mk.injEq] at g1
          obtain ⟨rfl, rfl⟩ := g1
          obtain ⟨v, e1, e2, e3⟩ := loadVar_run hk ht hkn (m := S) ((CellsAt.row g2).drop k) hl (g3.drop k) (undL_drop hu k)
          rw [Nat.zero_add] at e1
          exact ⟨v, by simpa [Instr.loadAt, Instr.sureAddr] using e1, e2, e3⟩
        · cases hl
      · rename_i id ver s i k
        simp only [PRep] at hx
        obtain ⟨b, nn, hb, rfl⟩ := hx
        split at hl
        · rename_i e' s' ver' room els hf
          split at hl
          · rename_i hc
            obtain ⟨rfl, rfl, hks⟩ := hc
            split at hl
            · rename_i e he
              obtain ⟨ho, hu, _⟩ := hobj id _ hf
              simp only [ORep] at ho
              have hlt : i < els.length := (List.getElem?_eq_some_iff.1 he).1
              obtain ⟨b', n', cs, g1, _, _, _, g2, g3, g4⟩ := ho.resolve_left (by intro hh; rw [hh.1] at hb; cases hb)
              rw [hb] at g1
              simp only [Option.some.injEq, Prod.mk.injEq] at g1
              obtain ⟨rfl, rfl⟩ := g1
              obtain ⟨c', q1, q2, q3⟩ := g4.get he
              obtain ⟨v, e1, e2, e3⟩ := loadVar_run hk ht hkn (m := S) (φ := φ) (q3.drop k) hl (PRepL.ds (q1.cells.drop k)) (undL_ds _ _)
              rw [Nat.zero_add] at e1
              exact ⟨v, by simpa [Instr.loadAt, Instr.sureAddr] using e1, e2, e3⟩
            · cases hl
          · cases hl
        · rename_i cells hf
          split at hl
          · rename_i hv; subst hv
            obtain ⟨ho, hu, _⟩ := hobj id _ hf
            simp only [ORep, PObj.und] at ho hu
            obtain ⟨b', n', cs, ty, g1, g2, g3⟩ := ho
            rw [hb] at g1
            simp only [Option.some.injEq, Prod.mk.injEq] at g1
            obtain ⟨rfl, rfl⟩ := g1
            obtain ⟨v, e1, e2, e3⟩ := loadVar_run hk ht hkn (m := S) ((CellsAt.row g2).drop (i * s + k)) hl (g3.drop (i * s + k)) (undL_drop hu (i * s + k))
            rw [Nat.zero_add] at e1
            exact ⟨v, by simpa [Instr.loadAt, Instr.sureAddr] using e1, e2, e3⟩
          · cases hl
        · cases hl
      · rename_i cells
        simp only [PRep] at hx
        obtain ⟨b, off, cs, rfl, h1, h2, h3, h4⟩ := hx
        obtain ⟨v, e1, e2, e3⟩ := loadVar_run hk ht hkn (m := S) (φ := φ) h4 hl (PRepL.ds h3) (undL_ds _ _)
        exact ⟨v, by simpa [Instr.loadAt, Instr.sureAddr] using e1, e2, e3⟩
      · cases hl
    · cases hl
include hk in
theorem fieldAddrP_run {t f : Nat} {n : Nat → Nat → Prop} {x p : PVal} {c : Value} (hl : fieldAddrP T t x f = some p) (hx : PRep w O φ x c) (hu : x.und n) :
    ∃ v, (Instr.fieldAt t c f).run P w = .ok v w ∧ p.und n ∧ PRep w O φ p v := by
  unfold fieldAddrP at hl
  split at hl
  · rename_i fs hkd
    obtain ⟨fields, hun, hfs⟩ := desc_of hk.tb hkd
    split at hl
    · rename_i o sz g hf
      obtain ⟨fl, e1, e2, e3, e4, e5⟩ := fieldsOK_get hfs hf
      have hfi : fields[f]? = some fl := by simpa using e1
      obtain ⟨inf, hi1, hi2⟩ := Option.map_eq_some_iff.1 e3
      split at hl
      · cases hl
      · rename_i hsz
        have run : ∀ b o', (Instr.fieldAt t (.pointer (some ⟨b, o', none⟩)) f).run P w = .ok (.pointer (some ⟨b, o' + o, none⟩)) w := by
          intro b o'
          simp [Instr.fieldAt, run_underlying hun, hfi, Instr.sureAddr, fieldPlace, sizeOf, typeInfo, hi1, hi2, hsz, addr_add, e2]
        split at hl
        · cases hl
          simp only [PRep] at hx ⊢
          obtain ⟨b, nn, hb, rfl⟩ := hx
          exact ⟨_, run _ _, hu, b, nn, hb, rfl⟩
        · cases hl
          simp only [PRep] at hx ⊢
          obtain ⟨b, nn, hb, rfl⟩ := hx
          exact ⟨_, run _ _, hu, b, nn, hb, by rw [Nat.add_assoc]⟩
        · cases hl
          simp only [PRep] at hx ⊢
          obtain ⟨b, off, cs, rfl, h1, h2, h3, h4⟩ := hx
          exact ⟨_, run _ _, by simp only [PVal.und], b, off + o, cs.drop o, rfl, h1, h2, h3.drop o, h4.drop o⟩
        · cases hl
    · cases hl
  · cases hl
include hk in
theorem fieldP_run {t f : Nat} {n : Nat → Nat → Prop} {x p : PVal} {c : Value} (hl : fieldP T t x f = some p) (hx : PRep w O φ x c) (hu : x.und n) :
    ∃ v, (Instr.field t c f).run P w = .ok v w ∧ p.und n ∧ PRep w O φ p v := by
  unfold fieldP at hl
  split at hl
  · rename_i fs hkd
    obtain ⟨fields, hun, hfs⟩ := desc_of hk.tb hkd
    split at hl
    · rename_i o sz g hf
      obtain ⟨fl, e1, e2, e3, e4, e5⟩ := fieldsOK_get hfs hf
      have hfi : fields[f]? = some fl := by simpa using e1
      obtain ⟨inf, hi1, hi2⟩ := Option.map_eq_some_iff.1 e3
      have key : ∀ (ps : List PVal) (us : List Value), PRepL w O φ ps us → undL n ps → o + sz ≤ ps.length → ofCells sz g (ps.drop o) = some p →
          ∃ v, (Instr.field t (.agg us.toArray) f).run P w = .ok v w ∧ p.und n ∧ PRep w O φ p v := by
        intro ps us hr hu hle ho
        obtain ⟨q1, q2⟩ := ofCells_rep ho (hr.drop o) (undL_drop hu o)
        have hag := run_isAgg_of (w := w) e4 e5
        rcases q2 with ⟨ha, hn, q3⟩ | ⟨ha, v, q3, q4⟩
        · refine ⟨_, ?_, q1, q3⟩
          subst ha
          simp only [Instr.field, Sem.run_bind, run_underlying hun, Result.andThen_ok, hfi, asAgg, Sem.run_pure, part, hag, if_true, sizeOf, typeInfo, run_program, hi1, hi2, e2]
          congr 2
          apply Array.ext'
          simp only [Array.toList_extract, List.extract_eq_take_drop]
          congr 1
          omega
        · refine ⟨v, ?_, q1, q4⟩
          subst ha
          have : us[o]? = some v := by simpa using q3
          simp [Instr.field, run_underlying hun, hfi, asAgg, part, hag, e2, this]
      split at hl
      · rename_i cs
        split at hl
        · rename_i hle
          simp only [PRep] at hx
          obtain ⟨us, rfl, hx⟩ := hx
          exact key cs us hx (by simpa only [PVal.und] using hu) hle hl
        · cases hl
      · rename_i cs
        split at hl
        · rename_i hle
          simp only [PRep, DRep] at hx
          obtain ⟨us, rfl, hx⟩ := hx
          exact key (cs.map .d) us (PRepL.ds hx) (undL_ds _ _) (by simpa using hle) (by simpa [List.map_drop] using hl)
        · cases hl
      · cases hl
    · cases hl
  · cases hl
end
end Go.Proofs.Ytdodgbhodkcckaa.Pv
end
section
set_option linter.unusedVariables false
set_option linter.unusedSimpArgs false
set_option autoImplicit false
namespace Go.Proofs.Ytdodgbhodkcckaa.Pv
open Go Go.RowKit
section
variable {P : Program} {T : Nat → Option TI} {eqt : Nat → Option (List CK)} (hk : Kit P T eqt) {w : World} {O : Nat → Prop} {φ : Nat → Nat → Option (Nat × Nat)}
include hk in
theorem indexAddrP_run {t : Nat} {n : Nat → Nat → Prop} {x ix p : PVal} {pre : Prop} {c ci : Value} (hl : indexAddrP T t x ix = some (p, pre)) (hp : pre) (hx : PRep w O φ x c) (hi : PRep w O φ ix ci) (hu : x.und n) :
    ∃ v, (Instr.indexAt t c ci).run P w = .ok v w ∧ p.und n ∧ PRep w O φ p v := by
  unfold indexAddrP at hl
  split at hl
  · rename_i k i e h1 hkd
    have hun : P.underlying t = some (.slice e) := desc_of hk.tb hkd
    have hci := asInt_rep h1 hi
    subst hci
    split at hl
    · cases hl
    · rename_i te hte
      have hs := run_sizeOf_T (P := P) hk.tb hte w
      split at hl
      · rename_i id ver s off len
        split at hl
        · rename_i e1
          subst e1
          simp only [Option.some.injEq, Prod.mk.injEq] at hl
          obtain ⟨rfl, rfl⟩ := hl
          obtain ⟨h0, hlt⟩ := hp
          simp only [PRep] at hx
          obtain ⟨b, nn, ad, hb, hle, rfl, had⟩ := hx.resolve_left (by intro hh; omega)
          obtain rfl := had.resolve_left (by omega)
          have hlt' : i < (len : Int) := by omega
          refine ⟨.pointer (some ⟨b, off * te.size + i.toNat * te.size, none⟩), ?_, by simpa only [PVal.und] using hu, ?_⟩
          · simp only [Instr.indexAt, asIntOf, Sem.run_bind, Sem.run_pure, Result.andThen_ok, run_underlying hun, h0, hlt', and_self, if_true, hs, addr_add]
          · simp only [PRep]; exact ⟨b, nn, hb, by rw [Nat.add_mul, Nat.add_zero]⟩
        · cases hl
      · split at hl
        · rename_i els hels
          split at hl
          · rename_i el hel
            simp only [Option.some.injEq, Prod.mk.injEq] at hl
            obtain ⟨rfl, rfl⟩ := hl
            obtain ⟨ad, cap, rfl, hlc, hor⟩ := asSlc_rep hels hx
            have hlt : i.toNat < els.length := (List.getElem?_eq_some_iff.1 hel).1
            obtain ⟨b, off, rfl, hb, hbs, hE⟩ := hor.resolve_left (fun e => by rw [e] at hlt; simp at hlt)
            obtain ⟨c', q1, q2, q3⟩ := hE.get hel
            have hlt' : i < (els.length : Int) := by omega
            refine ⟨.pointer (some ⟨b, off + i.toNat * te.size, none⟩), ?_, by simp only [PVal.und], ?_⟩
            · simp only [Instr.indexAt, asIntOf, Sem.run_bind, Sem.run_pure, Result.andThen_ok, run_underlying hun, hp, hlt', and_self, if_true, hs, addr_add]
            · simp only [PRep]; exact ⟨b, _, c'.cells.toList, rfl, hb, hbs, q1.cells, q3⟩
          · cases hl
        · cases hl
  · rename_i k i m e h1 hkd
    have hun : P.underlying t = some (.array m e) := desc_of hk.tb hkd
    have hci := asInt_rep h1 hi
    subst hci
    split at hl
    · cases hl
    · rename_i te hte
      have hs := run_sizeOf_T (P := P) hk.tb hte w
      have run : ∀ b o, 0 ≤ i → i.toNat < m → (Instr.indexAt t (.pointer (some ⟨b, o, none⟩)) (.int k i)).run P w = .ok (.pointer (some ⟨b, o + i.toNat * te.size, none⟩)) w := by
        intro b o h0 hlt
        have hlt' : i < (m : Int) := by omega
        simp only [Instr.indexAt, asIntOf, Sem.run_bind, Sem.run_pure, Result.andThen_ok, run_underlying hun, Instr.sureAddr, h0, hlt', and_self, if_true, hs, addr_add]
      split at hl
      · simp only [Option.some.injEq, Prod.mk.injEq] at hl
        obtain ⟨rfl, rfl⟩ := hl
        simp only [PRep] at hx ⊢
        obtain ⟨b, nn, hb, rfl⟩ := hx
        exact ⟨_, run _ _ hp.1 hp.2, hu, b, nn, hb, rfl⟩
      · simp only [Option.some.injEq, Prod.mk.injEq] at hl
        obtain ⟨rfl, rfl⟩ := hl
        simp only [PRep] at hx ⊢
        obtain ⟨b, nn, hb, rfl⟩ := hx
        exact ⟨_, run _ _ hp.1 hp.2, hu, b, nn, hb, by rw [Nat.add_assoc]⟩
      · simp only [Option.some.injEq, Prod.mk.injEq] at hl
        obtain ⟨rfl, rfl⟩ := hl
        simp only [PRep] at hx ⊢
        obtain ⟨b, off, cs, rfl, g1, g2, g3, g4⟩ := hx
        exact ⟨_, run _ _ hp.1 hp.2, by simp only [PVal.und], b, _, _, rfl, g1, g2, g3.drop _, g4.drop _⟩
      · cases hl
  · cases hl
include hk in
theorem indexP_run {t : Nat} {n : Nat → Nat → Prop} {x ix p : PVal} {pre : Prop} {c ci : Value} (hl : indexP T t x ix = some (p, pre)) (hp : pre) (hx : PRep w O φ x c) (hi : PRep w O φ ix ci) :
    ∃ v, (Instr.index t c ci).run P w = .ok v w ∧ p.und n ∧ PRep w O φ p v := by
  unfold indexP at hl
  split at hl
  · rename_i k i s h1 h2 hkd
    have hun : P.underlying t = some .string := desc_of hk.tb hkd
    have hci := asInt_rep h1 hi
    have hc := asStr_rep h2 hx
    subst hci; subst hc
    split at hl
    · rename_i b hb
      simp only [Option.some.injEq, Prod.mk.injEq] at hl
      obtain ⟨rfl, rfl⟩ := hl
      refine ⟨.int .u8 b.toNat, ?_, by simp only [PVal.und], by simp only [PRep, DRep]⟩
      simp [Instr.index, asIntOf, run_underlying hun, hp, hb]
    · cases hl
  · cases hl
def BoundV (ρ : Operand → Value) (x : Option Operand) (n : Option Int) : Prop := match n with
  | none => x = none
  | some i => ∃ y k, x = some y ∧ ρ y = .int k i
theorem optInt_rep {E : Env} {S : Nat → Nat → Prop} {st : St} {a : Act} (h : Rst E S φ st a w) {x : Option Operand} {n : Option Int} (hx : optInt st x = some n) : BoundV a.eval x n := by
  cases x with
  | none => simp only [optInt, Option.some.injEq] at hx; subst hx; simp [BoundV]
  | some y =>
    simp only [optInt, Option.map_eq_some_iff] at hx
    obtain ⟨⟨k, i⟩, h1, rfl⟩ := hx
    exact ⟨y, k, rfl, asInt_rep h1 (h.ev y).2⟩
theorem sliceBound_run {k : IntKind} {i : Int} {y : Nat} (h0 : 0 ≤ i) (h1 : i ≤ y) (code : BoundsCode) : (Instr.sliceBound (.int k i) y code).run P w = .ok i.toNat w := by
  simp [Instr.sliceBound, asIntOf, h0, h1]
theorem sliceBounds_run {ρ : Operand → Value} {lo hi mx : Option Operand} {l h m : Option Int} (hl : BoundV ρ lo l) (hh : BoundV ρ hi h) (hm : BoundV ρ mx m) (sl : Bool) (len cap : Nat) (hmh : m = none ∨ h ≠ none) (hlc : len ≤ cap)
    (h1 : 0 ≤ l.getD 0) (h2 : l.getD 0 ≤ h.getD len) (h3 : h.getD len ≤ m.getD cap) (h4 : m.getD cap ≤ cap) :
    (Instr.sliceBounds sl len cap (lo.map ρ) (hi.map ρ) (mx.map ρ)).run P w = .ok ((l.getD 0).toNat, (h.getD len).toNat, (m.getD cap).toNat) w := by
  cases m with
  | none =>
    simp only [BoundV] at hm; subst hm
    cases h with
    | none =>
      simp only [BoundV] at hh; subst hh
      cases l with
      | none => simp only [BoundV] at hl; subst hl; simp [Instr.sliceBounds]
      | some i =>
        obtain ⟨y, k, rfl, e⟩ := hl
        simp only [Option.getD_some, Option.getD_none] at h1 h2
        simp [Instr.sliceBounds, e, sliceBound_run h1 h2]
    | some j =>
      obtain ⟨z, k', rfl, e'⟩ := hh
      simp only [Option.getD_some, Option.getD_none] at h2 h3
      have hj : 0 ≤ j := Int.le_trans h1 h2
      cases l with
      | none => simp only [BoundV] at hl; subst hl; simp [Instr.sliceBounds, e', sliceBound_run hj h3]
      | some i =>
        obtain ⟨y, k, rfl, e⟩ := hl
        simp only [Option.getD_some] at h1 h2
        have h2' : i ≤ ((j.toNat : Nat) : Int) := by omega
        simp [Instr.sliceBounds, e, e', sliceBound_run hj h3, sliceBound_run h1 h2']
  | some q =>
    obtain ⟨u, k'', rfl, e''⟩ := hm
    cases h with
    | none => simp at hmh
    | some j =>
      obtain ⟨z, k', rfl, e'⟩ := hh
      simp only [Option.getD_some] at h2 h3 h4
      have hj : 0 ≤ j := Int.le_trans h1 h2
      have hq : 0 ≤ q := Int.le_trans hj h3
      have h3' : j ≤ ((q.toNat : Nat) : Int) := by omega
      cases l with
      | none => simp only [BoundV] at hl; subst hl; simp [Instr.sliceBounds, e', e'', sliceBound_run hq h4, sliceBound_run hj h3']
      | some i =>
        obtain ⟨y, k, rfl, e⟩ := hl
        simp only [Option.getD_some] at h1 h2
        have h2' : i ≤ ((j.toNat : Nat) : Int) := by omega
        simp [Instr.sliceBounds, e, e', e'', sliceBound_run hq h4, sliceBound_run hj h3', sliceBound_run h1 h2']
include hk in
theorem sliceP_run {ρ : Operand → Value} {lo hi mx : Option Operand} {l h m : Option Int} (hl : BoundV ρ lo l) (hh : BoundV ρ hi h) (hm : BoundV ρ mx m) {t : Nat} {n : Nat → Nat → Prop} {x p : PVal} {pre : Prop} {c : Value}
    {rm : Option Nat} (hrm : ∀ id ver s off len r, x = .own id ver s off len → rm = some r → (∀ b nn, φ id ver = some (b, nn) → nn = r) ∧ (φ id ver = none → r = 0)) (hs : sliceP T t rm x l h m = some (p, pre)) (hp : pre) (hx : PRep w O φ x c) (hu : x.und n) :
    ∃ v, (Instr.sliceAt t c (lo.map ρ) (hi.map ρ) (mx.map ρ)).run P w = .ok v w ∧ p.und n ∧ PRep w O φ p v := by
  unfold sliceP at hs
  split at hs
  · rename_i hkd
    have hun : P.underlying t = some .string := desc_of hk.tb hkd
    split at hs
    · rename_i s h1
      have hc := asStr_rep h1 hx
      subst hc
      simp only [BoundV] at hm
      subst hm
      simp only [Option.some.injEq, Prod.mk.injEq] at hs
      obtain ⟨rfl, rfl⟩ := hs
      have hb := sliceBounds_run (P := P) (w := w) hl hh (m := none) (mx := none) (by simp [BoundV]) false s.size s.size (.inl rfl) (Nat.le_refl _) hp.1 hp.2.1 (by simpa using hp.2.2) (by simp)
      refine ⟨.string (s.extract (l.getD 0).toNat (h.getD s.size).toNat), ?_, by simp only [PVal.und], by simp only [PRep, DRep]⟩
      simp only [Option.map_none] at hb
      simp [Instr.sliceAt, Instr.slice, run_underlying hun, hb]
    · cases hs
  · rename_i e hkd
    have hun : P.underlying t = some (.slice e) := desc_of hk.tb hkd
    split at hs
    · cases hs
    · rename_i te hte
      have hsz := run_sizeOf_T (P := P) hk.tb hte w
      split at hs
      · rename_i id ver s off len
        split at hs
        · rename_i hc
          obtain ⟨rfl, rfl⟩ := hc
          simp only [Option.some.injEq, Prod.mk.injEq] at hs
          obtain ⟨rfl, rfl⟩ := hs
          obtain ⟨g1, g2, g3⟩ := hp
          simp only [PRep] at hx ⊢
          simp only [BoundV] at hm
          subst hm
          rcases hx with ⟨hφ, rfl, rfl, rfl⟩ | ⟨b, nn, ad, hφ, hle, rfl, had⟩
          · have g3 : h.getD ((0 : Nat) : Int) ≤ ((0 : Nat) : Int) := by
              cases rm with
              | none => simpa [upTo] using g3
              | some r => have := (hrm _ _ _ _ _ r rfl rfl).2 hφ; subst this; simpa [upTo] using g3
            have hb := sliceBounds_run (P := P) (w := w) hl hh (m := none) (mx := none) (by simp [BoundV]) true 0 0 (.inl rfl) (Nat.le_refl _) g1 (by simpa using g2) (by simpa using g3) (by simp)
            have e1 : (h.getD ((0 : Nat) : Int)).toNat = 0 := by omega
            have e2 : (l.getD 0).toNat = 0 := by omega
            refine ⟨.slice none 0 0, ?_, by simpa only [PVal.und] using hu, .inl ⟨hφ, by rw [e2], by rw [e1, Nat.zero_sub], rfl⟩⟩
            simp only [Option.map_none] at hb
            simp only [Instr.sliceAt, Instr.slice, Sem.run_bind, run_underlying hun, Result.andThen_ok, Option.map_none, hb, hsz, Sem.run_pure, e1, e2]
            simp
          · have g3 : h.getD (len : Int) ≤ ((nn - off : Nat) : Int) := by
              cases rm with
              | none => simp only [upTo] at g3; omega
              | some r => have := (hrm _ _ _ _ _ r rfl rfl).1 b nn hφ; subst this; simpa [upTo] using g3
            have hb := sliceBounds_run (P := P) (w := w) hl hh (m := none) (mx := none) (by simp [BoundV]) true len (nn - off) (.inl rfl) (by omega) g1 g2 (by simp; omega) (by simp)
            simp only [Option.getD_none] at hb
            refine ⟨.slice (if nn - off = (l.getD 0).toNat then ad else ad.map (·.add ((l.getD 0).toNat * te.size))) ((h.getD len).toNat - (l.getD 0).toNat) (nn - off - (l.getD 0).toNat), ?_, by simpa only [PVal.und] using hu, .inr ⟨b, nn, _, hφ, by omega, by rw [Nat.sub_sub], ?_⟩⟩
            · have e1 : (((nn - off : Nat) : Int)).toNat = nn - off := by simp
              simp only [Option.map_none] at hb
              simp only [Instr.sliceAt, Instr.slice, Sem.run_bind, run_underlying hun, Result.andThen_ok, Option.map_none, hb, hsz, Sem.run_pure, e1]
            · by_cases hz : nn - (off + (l.getD 0).toNat) = 0
              · exact .inl hz
              · right
                obtain rfl := had.resolve_left (by omega)
                have : ¬ (nn - off = (l.getD 0).toNat) := by omega
                simp only [this, if_false, Option.map_some, addr_add]
                rw [Nat.add_mul]
        · split at hs
          · rename_i hsz'
            split at hs
            · rename_i hj mq _
              simp only [Option.some.injEq, Prod.mk.injEq] at hs
              obtain ⟨rfl, rfl⟩ := hs
              obtain ⟨g1, g2, g3, g4⟩ := hp
              have hcv : ∃ ad cap, c = .slice ad len cap ∧ len ≤ cap ∧ mq ≤ ((cap : Nat) : Int) := by
                simp only [PRep] at hx
                rcases hx with ⟨hφ, rfl, rfl, rfl⟩ | ⟨b, nn, ad, hφ, hle, rfl, had⟩
                · refine ⟨none, 0, rfl, Nat.le_refl _, ?_⟩
                  cases rm with
                  | none => simpa [upTo] using g4
                  | some r => have := (hrm _ _ _ _ _ r rfl rfl).2 hφ; subst this; simpa [upTo] using g4
                · refine ⟨ad, nn - off, rfl, by omega, ?_⟩
                  cases rm with
                  | none => simp only [upTo] at g4; omega
                  | some r => have := (hrm _ _ _ _ _ r rfl rfl).1 b nn hφ; subst this; simpa [upTo] using g4
              obtain ⟨ad, cap, rfl, hlc, hmc⟩ := hcv
              have hb := sliceBounds_run (P := P) (w := w) hl hh hm true len cap (.inr (by simp)) hlc g1 g2 g3 hmc
              refine ⟨_, by simp only [Instr.sliceAt, Instr.slice, Sem.run_bind, run_underlying hun, Result.andThen_ok, hb, hsz, Sem.run_pure]; rfl, by simp only [PVal.und], by simp only [PRep]⟩
            · cases hs
          · cases hs
      · split at hs
        · rename_i els hels
          split at hs
          · rename_i hmh
            simp only [Option.some.injEq, Prod.mk.injEq] at hs
            obtain ⟨rfl, rfl⟩ := hs
            obtain ⟨ad, cap, rfl, hlc, hor⟩ := asSlc_rep hels hx
            obtain ⟨g1, g2, g3, g4⟩ := hp
            have hmd : m.getD els.length ≤ m.getD cap ∧ m.getD cap ≤ cap := by
              cases m with
              | none => simp; omega
              | some q => simp only [Option.getD_some] at g4 ⊢; omega
            have hb := sliceBounds_run (P := P) (w := w) hl hh hm true els.length cap hmh hlc g1 g2 (by omega) hmd.2
            refine ⟨.slice (if (m.getD cap).toNat = (l.getD 0).toNat then ad else ad.map (·.add ((l.getD 0).toNat * te.size))) ((h.getD els.length).toNat - (l.getD 0).toNat) ((m.getD cap).toNat - (l.getD 0).toNat),
              by simp only [Instr.sliceAt, Instr.slice, Sem.run_bind, run_underlying hun, Result.andThen_ok, hb, hsz, Sem.run_pure], by simp only [PVal.und], ?_⟩
            simp only [PRep, DRep]
            have hln : ((els.take (h.getD els.length).toNat).drop (l.getD 0).toNat).length = (h.getD els.length).toNat - (l.getD 0).toNat := by
              simp only [List.length_drop, List.length_take]; omega
            simp only [hln]
            refine ⟨_, _, rfl, by omega, ?_⟩
            by_cases hz : (els.take (h.getD els.length).toNat).drop (l.getD 0).toNat = []
            · exact .inl hz
            · right
              have hpos : 0 < (h.getD els.length).toNat - (l.getD 0).toNat := by
                rw [← hln]; exact List.length_pos_iff.2 hz
              obtain ⟨b, o, rfl, hb1, hb2, hE⟩ := hor.resolve_left (fun e => by subst e; simp at hz)
              have : ¬ ((m.getD cap).toNat = (l.getD 0).toNat) := by omega
              simp only [this, if_false, Option.map_some, addr_add]
              exact ⟨b, _, rfl, hb1, hb2, (hE.take _).drop _⟩
          · cases hs
        · cases hs
  · cases hs
include hk in
theorem lenP_run {t : Nat} {x : PVal} {n : Int} {c : Value} (hl : lenP T t x = some n) (hx : PRep w O φ x c) (ty : Nat) : (Builtin.len_ #[t] ty #[c]).run P w = .ok (.int .i64 n) w := by
  unfold lenP at hl
  split at hl
  · rename_i hkd
    have hun : P.underlying t = some .string := desc_of hk.tb hkd
    obtain ⟨s, h1, rfl⟩ := Option.map_eq_some_iff.1 hl
    have hc := asStr_rep h1 hx
    subst hc
    simp [Builtin.len_, run_underlying hun, goInt]
  · rename_i e hkd
    have hun : P.underlying t = some (.slice e) := desc_of hk.tb hkd
    split at hl
    · cases hl
      simp only [PRep, DRep] at hx
      obtain ⟨a, cap, rfl, _⟩ := hx
      simp [Builtin.len_, run_underlying hun, goInt]
    · cases hl
      simp only [PRep, DRep] at hx
      subst hx
      simp [Builtin.len_, run_underlying hun, goInt]
    · cases hl
      simp only [PRep] at hx
      rcases hx with ⟨_, _, rfl, rfl⟩ | ⟨b, nn, ad, _, _, rfl, _⟩ <;> simp [Builtin.len_, run_underlying hun, goInt]
    · cases hl
  · rename_i m e hkd
    have hun : P.underlying t = some (.array m e) := desc_of hk.tb hkd
    cases hl
    simp [Builtin.len_, run_underlying hun, goInt]
  · cases hl
theorem cells_told {p : PVal} (h : p.cells.all PVal.one = true) (hn : p ≠ .dead) : (∀ b q, p ≠ .gd b q) := by
  intro b q e
  subst e
  simp [PVal.cells, PVal.one] at h
theorem und_cells {n : Nat → Nat → Prop} {p : PVal} (h : p.und n) : undL n p.cells := by
  cases p <;> simp only [PVal.cells, undL, PVal.und] at * <;> first
    | exact ⟨h, trivial⟩
    | exact h
    | exact undL_ds _ _
    | trivial
theorem splice_rep {ps qs : List PVal} {cs xs : List Value} (h : PRepL w O φ ps cs) (h' : PRepL w O φ qs xs) (o : Nat) : PRepL w O φ (splice ps o qs) (splice cs o xs) := by
  unfold splice
  rw [← h'.length]
  exact ((h.take o).append h').append (h.drop _)
theorem und_splice {n : Nat → Nat → Prop} {ps qs : List PVal} (h : undL n ps) (h' : undL n qs) (o : Nat) : undL n (splice ps o qs) := by
  unfold splice
  exact undL_append (undL_append (undL_take h o) h') (undL_drop h _)
theorem foldl_get {α : Type} : ∀ (cs : List α) (A : Array α) (off k i : Nat), off + k + cs.length ≤ A.size →
    ((cs.zipIdx k).foldl (fun A (x : α × Nat) => A.setIfInBounds (off + x.2) x.1) A)[i]? = if off + k ≤ i ∧ i < off + k + cs.length then cs[i - (off + k)]? else A[i]?
  | [], A, off, k, i, h => by
    have : ¬ (off + k ≤ i ∧ i < off + k + ([] : List α).length) := by intro hh; simp at hh; omega
    simp only [List.zipIdx_nil, List.foldl_nil, this, if_false]
  | c :: cs, A, off, k, i, h => by
    simp only [List.zipIdx_cons, List.foldl_cons]
    simp only [List.length_cons] at h
    rw [foldl_get cs _ off (k + 1) i (by simp; omega)]
    by_cases h1 : i = off + k
    · subst h1
      have e1 : ¬ (off + (k + 1) ≤ off + k ∧ off + k < off + (k + 1) + cs.length) := by omega
      have e2 : off + k ≤ off + k ∧ off + k < off + k + (c :: cs).length := by simp
      simp only [e1, e2, if_false, if_true, Nat.sub_self]
      rw [Array.getElem?_setIfInBounds_self_of_lt (by omega)]
      simp
    · by_cases h2 : off + (k + 1) ≤ i ∧ i < off + (k + 1) + cs.length
      · have e2 : off + k ≤ i ∧ i < off + k + (c :: cs).length := by simp; omega
        simp only [h2, e2, and_self, if_true]
        have e3 : i - (off + k) = (i - (off + (k + 1))) + 1 := by omega
        rw [e3, List.getElem?_cons_succ]
      · have e2 : ¬ (off + k ≤ i ∧ i < off + k + (c :: cs).length) := by simp; omega
        simp only [h2, e2, if_false]
        rw [Array.getElem?_setIfInBounds_ne (by omega)]
theorem splice_get {α : Type} (cs ps : List α) (o i : Nat) (h : o + ps.length ≤ cs.length) : (splice cs o ps)[i]? = if o ≤ i ∧ i < o + ps.length then ps[i - o]? else cs[i]? := by
  unfold splice
  have hl : (cs.take o).length = o := by simp; omega
  by_cases h1 : i < o
  · have e : ¬ (o ≤ i ∧ i < o + ps.length) := by omega
    rw [if_neg e, List.append_assoc, List.getElem?_append_left (by omega), List.getElem?_take, if_pos h1]
  · by_cases h2 : i < o + ps.length
    · have e : o ≤ i ∧ i < o + ps.length := by omega
      rw [if_pos e, List.append_assoc, List.getElem?_append_right (by omega), hl, List.getElem?_append_left (by omega)]
    · have e : ¬ (o ≤ i ∧ i < o + ps.length) := by omega
      rw [if_neg e, List.append_assoc, List.getElem?_append_right (by omega), hl, List.getElem?_append_right (by omega), List.getElem?_drop]
      congr 1; omega
theorem foldl_splice {α : Type} (A : Array α) (cs : List α) (off : Nat) (h : off + cs.length ≤ A.size) : (cs.zipIdx.foldl (fun A (x : α × Nat) => A.setIfInBounds (off + x.2) x.1) A) = (splice A.toList off cs).toArray := by
  apply Array.ext'
  apply List.ext_getElem?
  intro i
  have := foldl_get cs A off 0 i (by omega)
  simp only [Nat.add_zero] at this
  rw [Array.getElem?_toList, this, splice_get _ _ _ _ (by simpa using h)]
  simp
theorem length_splice' {α : Type} (cs ps : List α) (o : Nat) (h : o + ps.length ≤ cs.length) : (splice cs o ps).length = cs.length := by
  unfold splice; simp; omega
theorem fillP_run {place : Nat → Option (Nat × Nat)} : ∀ {parts : List (Nat × PVal)} {vals : List (Nat × Value)} {cells out : List PVal} {cs : List Value},
    fillP place cells parts = some out → parts.map (·.1) = vals.map (·.1) → PRepL w O φ (parts.map (·.2)) (vals.map (·.2)) → PRepL w O φ cells cs →
    ∃ cs', Instr.fill place cs.toArray vals = some cs'.toArray ∧ PRepL w O φ out cs'
  | [], vals, cells, out, cs, hf, hm, hr, hc => by
    cases vals with
    | nil => simp only [fillP, Option.some.injEq] at hf; subst hf; exact ⟨cs, rfl, hc⟩
    | cons v vals => simp at hm
  | (i, p) :: parts, vals, cells, out, cs, hf, hm, hr, hc => by
    cases vals with
    | nil => simp at hm
    | cons v vals =>
      obtain ⟨i', v⟩ := v
      simp only [List.map_cons, List.cons.injEq] at hm
      obtain ⟨rfl, hm⟩ := hm
      simp only [List.map_cons, PRepL] at hr
      obtain ⟨c, cs', e, hr1, hr2⟩ := hr
      simp only [List.cons.injEq] at e
      obtain ⟨rfl, rfl⟩ := e
      simp only [fillP] at hf
      split at hf
      · cases hf
      · rename_i o sz hpl
        split at hf
        · rename_i hcd
          obtain ⟨hc1, hc2, hc3⟩ := hcd
          have hne : p ≠ .dead := by intro e; subst e; simp [PVal.cells, PVal.one] at hc3
          have hcells := PRep.cells (cells_told hc3 hne) hne hr1
          have hvl : v.cells.toList.length = sz := by rw [hcells.length]; exact hc1
          have hlen := hc.length
          obtain ⟨cs', g1, g2⟩ := fillP_run hf hm hr2 (splice_rep hc hcells o)
          refine ⟨cs', ?_, g2⟩
          have hvs : v.cells.size = sz := by simpa using hvl
          have hfl := foldl_splice (A := cs.toArray) v.cells.toList o (by simp; omega)
          simp only [List.toList_toArray] at hfl
          simp only [Instr.fill, hpl, hvs]
          have hno : ¬ (sz ≠ sz ∨ o + sz > cs.toArray.size) := by simp; omega
          have hno' : (decide (sz ≠ sz) || decide (o + sz > cs.toArray.size)) = false := by simp; omega
          rw [if_neg (by simpa using hno)]
          rw [← g1, ← hfl]
          congr 1
          rw [← Array.foldl_toList]
          simp [Array.toList_zipIdx]
        · cases hf
end
end Go.Proofs.Ytdodgbhodkcckaa.Pv
end
section
set_option linter.unusedVariables false
set_option linter.unusedSimpArgs false
set_option autoImplicit false
namespace Go.Proofs.Ytdodgbhodkcckaa.Pv
open Go Go.RowKit
section
variable {P : Program} {T : Nat → Option TI} {eqt : Nat → Option (List CK)} (hk : Kit P T eqt) {w : World} {O : Nat → Prop} {φ : Nat → Nat → Option (Nat × Nat)}
theorem zero_rep (v : Value) : PRepL w O φ (zeroCells v) v.cells.toList := by
  have h := PRepL.ds (φ := φ) (DRepL.vs (w := w) (O := O) v.cells.toList)
  simpa [zeroCells, Function.comp_def] using h
theorem zero_und (v : Value) (n : Nat → Nat → Prop) : undL n (zeroCells v) := by
  have h := undL_ds n (v.cells.toList.map D.v)
  simpa [zeroCells, Function.comp_def] using h
theorem places_run : ∀ {fs : List (Nat × Nat × Bool)} {gs : List Field}, FieldsOK P fs gs → ∃ pl : List (Nat × Nat),
    (gs.mapM fun f => (do pure (f.offset, ← sizeOf f.type) : Sem (Nat × Nat))).run P w = .ok pl w ∧ ∀ i : Nat, pl[i]? = fs[i]?.map fun f => (f.1, f.2.1)
  | [], [], _ => ⟨[], by simp, by simp⟩
  | [], g :: gs, h => by simp [FieldsOK] at h
  | f :: fs, [], h => by obtain ⟨o, s, g⟩ := f; simp [FieldsOK] at h
  | (o, s, g) :: fs, f :: gs, h => by
    simp only [FieldsOK] at h
    obtain ⟨h1, h2, _, _, h5⟩ := h
    obtain ⟨pl, e1, e2⟩ := places_run h5
    obtain ⟨inf, hi1, hi2⟩ := Option.map_eq_some_iff.1 h2
    refine ⟨(o, s) :: pl, ?_, ?_⟩
    · have e0 : (sizeOf f.type).run P w = .ok s w := by simp [sizeOf, typeInfo, hi1, hi2]
      simp only [List.mapM_cons, Sem.run_bind, e0, Result.andThen_ok, Sem.run_pure, e1, h1]
    · intro i
      cases i with
      | zero => simp
      | succ i => simpa using e2 i
include hk in
theorem buildP_run {t : Nat} {n : Nat → Nat → Prop} {parts : List (Nat × PVal)} {vals : List (Nat × Value)} {p : PVal} (hb : buildP T t parts = some p) (hm : parts.map (·.1) = vals.map (·.1)) (hr : PRepL w O φ (parts.map (·.2)) (vals.map (·.2))) (hu : undL n (parts.map (·.2))) :
    ∃ v, (Instr.build t vals.toArray).run P w = .ok v w ∧ p.und n ∧ PRep w O φ p v := by
  have fu : ∀ (place : Nat → Option (Nat × Nat)) (ps : List (Nat × PVal)) (cells out : List PVal), fillP place cells ps = some out → undL n (ps.map (·.2)) → undL n cells → undL n out := by
    intro place ps
    induction ps with
    | nil => intro cells out h _ hc; simp only [fillP, Option.some.injEq] at h; subst h; exact hc
    | cons q ps ih =>
      obtain ⟨i, q⟩ := q
      intro cells out h hq hc
      simp only [fillP] at h
      simp only [List.map_cons, undL] at hq
      split at h
      · cases h
      · split at h
        · exact ih _ _ h hq.2 (und_splice hc (und_cells hq.1) _)
        · cases h
  unfold buildP at hb
  split at hb
  · rename_i fs sz by_ z ht
    have hz := run_zeroValue_T (P := P) hk.tb ht w
    obtain ⟨fields, hun, hfs⟩ := (hk.tb t _ ht).desc
    obtain ⟨out, ho, rfl⟩ := Option.map_eq_some_iff.1 hb
    obtain ⟨pl, e1, e2⟩ := places_run (w := w) hfs
    obtain ⟨cs', g1, g2⟩ := fillP_run ho hm hr (zero_rep (φ := φ) z)
    refine ⟨.agg cs'.toArray, ?_, ?_, ?_⟩
    · have e3 : (fields.mapM fun f => (do pure (f.offset, ← sizeOf f.type) : Sem (Nat × Nat))).run P w = .ok pl.toArray w := by
        rw [Array.mapM_eq_mapM_toList]
        simp only [Sem.run_map, e1, Result.andThen_ok]
      have e4 : (fun i : Nat => pl.toArray[i]?) = fun i : Nat => fs[i]?.map fun (f : Nat × Nat × Bool) => (f.1, f.2.1) := by funext i; simpa using e2 i
      simp only [Instr.build, Sem.run_bind, hz, Result.andThen_ok, run_underlying hun, e3, e4]
      simp only [Array.toArray_toList] at g1
      rw [g1]; rfl
    · simp only [PVal.und]; exact fu _ _ _ _ ho hu (zero_und z n)
    · simp only [PRep]; exact ⟨cs', rfl, g2⟩
  · rename_i m e sz by_ z ht
    have hz := run_zeroValue_T (P := P) hk.tb ht w
    have hun : P.underlying t = some (.array m e) := (hk.tb t _ ht).desc
    split at hb
    · rename_i te hte
      have hs := run_sizeOf_T (P := P) hk.tb hte w
      obtain ⟨out, ho, rfl⟩ := Option.map_eq_some_iff.1 hb
      obtain ⟨cs', g1, g2⟩ := fillP_run ho hm hr (zero_rep (φ := φ) z)
      refine ⟨.agg cs'.toArray, ?_, ?_, ?_⟩
      · simp only [Instr.build, Sem.run_bind, hz, Result.andThen_ok, run_underlying hun, hs]
        simp only [Array.toArray_toList] at g1
        rw [g1]; rfl
      · simp only [PVal.und]; exact fu _ _ _ _ ho hu (zero_und z n)
      · simp only [PRep]; exact ⟨cs', rfl, g2⟩
    · cases hb
  · cases hb
theorem pickP_rep {b : Bool} {x y p : PVal} {pre : Prop} {cx cy : Value} {n : Nat → Nat → Prop} (h : pickP b x y = some (p, pre)) (hp : pre) (hx : PRep w O φ x cx) (hy : PRep w O φ y cy) : p.und n ∧ PRep w O φ p (if b then cx else cy) := by
  unfold pickP at h
  have sx : ∀ q : PVal, (match q with | .gd g p => (p, g = true) | p => (p, True) : PVal × Prop) = q.strip := by intro q; cases q <;> rfl
  simp only [sx] at h
  split at h
  · rename_i u v h1 h2
    simp only [Option.some.injEq, Prod.mk.injEq] at h
    obtain ⟨rfl, rfl⟩ := h
    refine ⟨by simp only [PVal.und], ?_⟩
    cases b with
    | true => have := asBool_rep h1 (PRep.strip hx (hp.1 rfl)); simp [PRep, DRep, this]
    | false => have := asBool_rep h2 (PRep.strip hy (hp.2 rfl)); simp [PRep, DRep, this]
  · split at h
    · rename_i k u k' v h1 h2
      split at h
      · rename_i e; subst e
        simp only [Option.some.injEq, Prod.mk.injEq] at h
        obtain ⟨rfl, rfl⟩ := h
        refine ⟨by simp only [PVal.und], ?_⟩
        cases b with
        | true => have := asInt_rep h1 (PRep.strip hx (hp.1 rfl)); simp [PRep, DRep, this]
        | false => have := asInt_rep h2 (PRep.strip hy (hp.2 rfl)); simp [PRep, DRep, this]
      · cases h
    · split at h
      · rename_i q e1 e2
        simp only [Option.some.injEq, Prod.mk.injEq] at h
        obtain ⟨rfl, rfl⟩ := h
        obtain ⟨rfl, hp2⟩ := hp
        have := PRep.strip hx hp2
        rw [show x.strip.1 = .d q by rw [← sx x]; exact e1] at this
        exact ⟨by simp only [PVal.und], by simpa using this⟩
      · rename_i q e1 e2
        simp only [Option.some.injEq, Prod.mk.injEq] at h
        obtain ⟨rfl, rfl⟩ := h
        obtain ⟨rfl, hp2⟩ := hp
        have := PRep.strip hy hp2
        rw [show y.strip.1 = .d q by rw [← sx y]; exact e2] at this
        exact ⟨by simp only [PVal.und], by simpa using this⟩
      · cases h
theorem unP_rep {op : UnOp} {x p : PVal} {c : Value} {n : Nat → Nat → Prop} (h : unP op x = some p) (hx : PRep w O φ x c) : ∃ v, (Op.unary op c).run P w = .ok v w ∧ p.und n ∧ PRep w O φ p v := by
  unfold unP at h
  split at h
  · rename_i k i h1
    cases h
    rw [asInt_rep h1 hx]
    exact ⟨.int k (k.wrap (0 - i)), by simp [Op.unary, Op.intArith], by simp only [PVal.und], by simp only [PRep, DRep]⟩
  · rename_i b h1
    cases h
    rw [asBool_rep h1 hx]
    exact ⟨.bool (!b), by simp [Op.unary], by simp only [PVal.und], by simp only [PRep, DRep]⟩
  · cases h
include hk in
theorem convP_rep {src dst : Nat} {n : Nat → Nat → Prop} {x p : PVal} {c : Value} (hsrc : ∃ d, P.underlying src = some d) (h : convP T dst x = some p) (hx : PRep w O φ x c) : ∃ v, (convert src dst c).run P w = .ok v w ∧ p.und n ∧ PRep w O φ p v := by
  obtain ⟨ds, hs⟩ := hsrc
  unfold convP at h
  split at h
  · rename_i k k' i hkd h1
    have hun : P.underlying dst = some (.int k) := desc_of hk.tb hkd
    cases h
    rw [asInt_rep h1 hx]
    exact ⟨.int k (k.wrap i), by simp [convert, run_underlying hs, run_underlying hun, Conv.intToInt], by simp only [PVal.und], by simp only [PRep, DRep]⟩
  · rename_i hkd h1
    have hun : P.underlying dst = some .string := desc_of hk.tb hkd
    obtain ⟨s, h2, rfl⟩ := Option.map_eq_some_iff.1 h
    rw [asStr_rep h2 hx]
    exact ⟨.string s, by simp [convert, run_underlying hs, run_underlying hun], by simp only [PVal.und], by simp only [PRep, DRep]⟩
  · cases h
end
theorem rep_map_evs {E : Env} {S : Nat → Nat → Prop} {φ : Nat → Nat → Option (Nat × Nat)} {st : St} {a : Act} {w : World} (h : Rst E S φ st a w) {parts : List (Nat × Operand)} (hg : st.gds (parts.map (·.2))) :
    undL S ((parts.map fun q => (q.1, st.evs q.2)).map (·.2)) ∧ PRepL w (Held E φ st.heap) φ ((parts.map fun q => (q.1, st.evs q.2)).map (·.2)) ((parts.map fun q => (q.1, a.eval q.2)).map (·.2)) := by
  have := h.evL (l := parts.map (·.2)) (gds_mem hg)
  simpa [List.map_map, Function.comp_def] using this
theorem underlying_of {P : Program} {T : Nat → Option TI} (hT : TbOK P T) {t : Nat} (h : ((T t).any fun i => i.kind.known) = true) : ∃ d, P.underlying t = some d := by
  cases ht : T t with
  | none => simp [ht] at h
  | some ti =>
    simp only [ht, Option.any_some] at h
    have hd := (hT t ti ht).desc
    cases hkd : ti.kind with
    | other => rw [hkd] at h; cases h
    | struct fs => rw [hkd] at hd; obtain ⟨fields, hu, _⟩ := hd; exact ⟨_, hu⟩
    | func => rw [hkd] at hd; obtain ⟨_, _, _, hu⟩ := hd; exact ⟨_, hu⟩
    | iface => rw [hkd] at hd; obtain ⟨_, hu⟩ := hd; exact ⟨_, hu⟩
    | _ => rw [hkd] at hd; exact ⟨_, hd⟩
theorem roomOf_rep {E : Env} {S : Nat → Nat → Prop} {φ : Nat → Nat → Option (Nat × Nat)} {st : St} {a : Act} {w : World} (h : Rst E S φ st a w) {x : PVal} : ∀ id ver s off len r, x = .own id ver s off len → roomOf st.heap x = some r → (∀ b nn, φ id ver = some (b, nn) → nn = r) ∧ (φ id ver = none → r = 0) := by
  rintro id ver s off len r rfl hr
  simp only [roomOf] at hr
  split at hr
  · rename_i e s' ver' room els hf
    split at hr
    · rename_i hv
      subst hv; subst hr
      have ho := (h.objs id _ hf).2.2.2.2
      simp only [ORep] at ho
      rcases ho with ⟨h1, _, h3⟩ | ⟨b', n', cs, h1, _, _, h4, _⟩
      · exact ⟨fun b nn hb => (by rw [h1] at hb; cases hb), fun _ => h3 r rfl⟩
      · exact ⟨fun b nn hb => (by rw [h1] at hb; cases hb; exact (h4 r rfl).symm), fun hn => (by rw [h1] at hn; cases hn)⟩
    · cases hr
  · cases hr
section
variable {P : Program} {T : Nat → Option TI} {eqt : Nat → Option (List CK)} (hk : Kit P T eqt) {w : World} {O : Nat → Prop}
theorem keyEq_vals {kk : Option (List CK)} {x y : D} {cx cy : Value} {r : Bool} (h : keyEq kk x y = some r) (hx : DRep w O x cx) (hy : DRep w O y cy) :
    (kk = none ∧ ∃ k a b, cx = .int k a ∧ cy = .int k b ∧ r = (a == b)) ∨ (∃ (ks : List CK) (us vs : List Value), kk = some ks ∧ cx = .agg us.toArray ∧ cy = .agg vs.toArray ∧ cellsEq ks (us.map .v) (vs.map .v) = some r) := by
  unfold keyEq at h
  split at h
  · split at h
    · rename_i e; subst e
      cases h
      simp only [DRep] at hx hy
      exact .inl ⟨rfl, _, _, _, hx, hy, rfl⟩
    · cases h
  · rename_i ks xs ys
    simp only [DRep] at hx hy
    obtain ⟨us, rfl, g1⟩ := hx
    obtain ⟨vs, rfl, g2⟩ := hy
    obtain ⟨rfl, rfl⟩ := cellsEq_vals h g1 g2
    exact .inr ⟨ks, us, vs, rfl, rfl, rfl, h⟩
  · cases h
theorem run_findKeyN {kt : TypeId} {d : TypeDesc} {k : Value} {l : List MapEntry} {a : Option (Nat × Value)} (hd : P.underlying kt = some d) (h : Instr.findNow d k l 0 = some a) : (Instr.findKey kt k l).run P w = .ok a w := by
  simp [Instr.findKey, run_underlying hd, Result.andThen, h]
def entAt (l : List MapEntry) (r : Option Nat) : Option (Nat × Value) := r.map fun j => (j, (l[j]?.map (·.val)).getD undef)
theorem findNow_int {q k : IntKind} {a : Int} : ∀ (es : List (D × D)) (l : List MapEntry) (i : Nat) (r : Option Nat), DRepL w O (es.map (·.1)) (l.map (·.key)) → mapFind none (.v (.int k a)) es = some r →
    Instr.findNow (.int q) (.int k a) l i = some (r.map fun j => (i + j, (l[j]?.map (·.val)).getD undef))
  | [], l, i, r, hd, h => by
    simp only [List.map_nil, DRepL, List.map_eq_nil_iff] at hd; subst hd
    simp only [mapFind, Option.some.injEq] at h; subst h
    rfl
  | e :: es, [], i, r, hd, h => by simp [DRepL] at hd
  | e :: es, m :: l, i, r, hd, h => by
    simp only [List.map_cons, DRepL, List.cons.injEq] at hd
    obtain ⟨c, cs, ⟨rfl, rfl⟩, g1, g2⟩ := hd
    simp only [mapFind] at h
    have one : ∀ b, keyEq none (.v (.int k a)) e.1 = some b → ∃ b', m.key = .int k b' ∧ b = (a == b') := by
      intro b hb
      rcases keyEq_vals (cx := .int k a) hb (by simp only [DRep]) g1 with ⟨_, k1, a1, b1, e1, e2, e3⟩ | ⟨ks, _, _, e1, _⟩
      · cases e1; exact ⟨b1, e2, e3⟩
      · cases e1
    split at h
    · rename_i hb
      obtain ⟨b', e1, e2⟩ := one _ hb
      cases h
      simp [Instr.findNow, e1, Instr.sameNow, ← e2]
    · rename_i hb
      obtain ⟨b', e1, e2⟩ := one _ hb
      have ih := fun (r' : Option Nat) (hr : mapFind none (.v (.int k a)) es = some r') => findNow_int (q := q) (k := k) (a := a) es l (i + 1) r' g2 hr
      split at h
      · rename_i j hj
        cases h
        simp only [Instr.findNow, e1, Instr.sameNow, if_true, ← e2, ih _ hj]
        simp; omega
      · rename_i hj
        cases h
        simp only [Instr.findNow, e1, Instr.sameNow, if_true, ← e2, ih _ hj]
        simp
      · cases h
    · cases h
include hk in
theorem findAsking_agg {t : Nat} {ks : List CK} (he : eqt t = some ks) {xs : List D} {us : List Value} (hx : DRep w O (.agg xs) (.agg us.toArray)) : ∀ (es : List (D × D)) (l : List MapEntry) (i : Nat) (r : Option Nat), DRepL w O (es.map (·.1)) (l.map (·.key)) → mapFind (some ks) (.agg xs) es = some r →
    (Instr.findAsking t (.agg us.toArray) l i).run P w = .ok (r.map fun j => (i + j, (l[j]?.map (·.val)).getD undef)) w
  | [], l, i, r, hd, h => by
    simp only [List.map_nil, DRepL, List.map_eq_nil_iff] at hd; subst hd
    simp only [mapFind, Option.some.injEq] at h; subst h
    simp [Instr.findAsking]
  | e :: es, [], i, r, hd, h => by simp [DRepL] at hd
  | e :: es, m :: l, i, r, hd, h => by
    simp only [List.map_cons, DRepL, List.cons.injEq] at hd
    obtain ⟨c, cs, ⟨rfl, rfl⟩, g1, g2⟩ := hd
    simp only [mapFind] at h
    have one : ∀ b, keyEq (some ks) (.agg xs) e.1 = some b → (Op.equal t (.agg us.toArray) m.key).run P w = .ok b w := by
      intro b hb
      rcases keyEq_vals hb hx g1 with ⟨e1, _⟩ | ⟨ks', us', vs', e1, e2, e3, e4⟩
      · cases e1
      · cases e1; cases e2
        rw [e3]
        exact (hk.eq t _ he us vs' b e4 w .eql (.tmp 0) (.tmp 0)).2
    split at h
    · rename_i hb
      cases h
      simp [Instr.findAsking, one _ hb]
    · rename_i hb
      have ih := fun (r' : Option Nat) (hr : mapFind (some ks) (.agg xs) es = some r') => findAsking_agg he hx es l (i + 1) r' g2 hr
      split at h
      · rename_i j hj
        cases h
        simp only [Instr.findAsking, Sem.run_bind, one _ hb, Result.andThen_ok, Bool.false_eq_true, if_false, ih _ hj]
        simp; omega
      · rename_i hj
        cases h
        simp only [Instr.findAsking, Sem.run_bind, one _ hb, Result.andThen_ok, Bool.false_eq_true, if_false, ih _ hj]
        simp
      · cases h
    · cases h
include hk in
theorem key_run {kt : Nat} {kk : Option (List CK)} (hc : keyCK T eqt kt = some kk) {x : D} {cx : Value} (hok : (keyEq kk x x).isSome = true) (hx : DRep w O x cx) :
    (∀ em, (Instr.checkKey em 10000 kt cx).run P w = .ok () w) ∧ ∀ (es : List (D × D)) (l : List MapEntry) (r : Option Nat), DRepL w O (es.map (·.1)) (l.map (·.key)) → mapFind kk x es = some r → (Instr.findKey kt cx l).run P w = .ok (entAt l r) w := by
  obtain ⟨b, hb⟩ := Option.isSome_iff_exists.1 hok
  unfold keyCK at hc
  split at hc
  · rename_i q hkd
    cases hc
    have hu : P.underlying kt = some (.int q) := desc_of hk.tb hkd
    rcases keyEq_vals hb hx hx with ⟨_, k, a, b', e1, _, _⟩ | ⟨_, _, _, e1, _⟩
    · subst e1
      refine ⟨fun em => ?_, fun es l r hd hm => ?_⟩
      · show (Instr.checkKey em (9999 + 1) kt (.int k a)).run P w = .ok () w
        rw [Instr.checkKey]
        simp only [Sem.run_bind, run_underlying hu, Result.andThen_ok, Sem.run_pure]
      · have hxx : x = .v (.int k a) := by
          cases x <;> simp only [keyEq] at hb <;> try (cases hb; done)
          rename_i v
          simp only [DRep] at hx; rw [hx]
        subst hxx
        have := findNow_int (q := q) es l 0 r hd hm
        simp only [Nat.zero_add] at this
        exact run_findKeyN hu this
    · cases e1
  · rename_i fs hkd
    split at hc
    · rename_i ks he
      split at hc
      · cases hc
        obtain ⟨fields, hu, _⟩ := desc_of hk.tb hkd
        rcases keyEq_vals hb hx hx with ⟨e1, _⟩ | ⟨ks', us, vs, e1, e2, e3, e4⟩
        · cases e1
        · cases e1
          subst e2
          cases e3
          refine ⟨fun em => hk.key kt _ he us b e4 w em, fun es l r hd hm => ?_⟩
          have hxx : ∃ xs, x = .agg xs := by
            cases x <;> simp only [keyEq] at hb <;> first | exact ⟨_, rfl⟩ | (cases hb; done)
          obtain ⟨xs, rfl⟩ := hxx
          rw [run_findKey_eq w (by rw [hu])]
          have := findAsking_agg hk he hx es l 0 r hd hm
          simp only [Nat.zero_add] at this
          exact this
      · cases hc
    · cases hc
  · cases hc
theorem find_some {es : List (D × D)} {l : List MapEntry} {i : Nat} {e : D × D} (h : es[i]? = some e) (hv : DRepL w O (es.map (·.2)) (l.map (·.val))) : ∃ m, l[i]? = some m ∧ DRep w O e.2 m.val := by
  obtain ⟨c, h1, h2⟩ := hv.get (i := i) (d := e.2) (by simp [h])
  rw [List.getElem?_map] at h1
  obtain ⟨m, h3, rfl⟩ := Option.map_eq_some_iff.1 h1
  exact ⟨m, h3, h2⟩
include hk in
theorem lookupP_run {h : List (Nat × PObj)} {φ : Nat → Nat → Option (Nat × Nat)} (hobj : ∀ id o, find id h = some o → ORep w O φ id o ∧ ∀ b, blk φ id o = some b → b < w.heap.size) {t : Nat} {x ix q : PVal} {pre : Prop} {cx ci : Value} {ok : Bool}
    (hl : lookupP T eqt h t x ix ok = some (q, pre)) (hp : pre) (hx : PRep w O φ x cx) (hi : PRep w O φ ix ci) : ∃ d c, (Instr.lookup t cx ci ok).run P w = .ok c w ∧ q = .d d ∧ PRep w O φ (.d d) c := by
  unfold lookupP at hl
  split at hl
  · rename_i kt el id hkd
    have hu : P.underlying t = some (.map kt el) := desc_of hk.tb hkd
    simp only [PRep] at hx
    obtain ⟨b, n, hb, rfl⟩ := hx
    split at hl
    · rename_i es te kk kd hf hte hkk hkd'
      split at hl
      · rename_i r hr
        simp only [Option.some.injEq, Prod.mk.injEq] at hl
        obtain ⟨rfl, rfl⟩ := hl
        obtain ⟨ho, _⟩ := hobj id _ hf
        simp only [ORep] at ho
        obtain ⟨b', n', arr, clock, g1, g2, g3, g4, _⟩ := ho
        rw [hb] at g1
        simp only [Option.some.injEq, Prod.mk.injEq] at g1
        obtain ⟨rfl, rfl⟩ := g1
        have hkr := toD_rep (O' := fun _ => False) hobj (fun _ h => h.elim) ix _ ci hkd' (fun _ _ _ _ _ _ h => h) hi
        have g3' := DRepL.keep (w := w) (w' := w) (O := O) (O' := fun _ => False) ⟨Nat.le_refl _, fun _ _ _ => rfl⟩ (fun _ _ h => h.elim) _ _ g3
        obtain ⟨k1, k2⟩ := key_run hk hkk hp hkr
        have hz := run_zeroValue_T (P := P) hk.tb hte w
        have run : ∀ (r' : Option Nat), mapFind kk kd es = some r' → (Instr.lookup t (.map (some b)) ci ok).run P w = .ok (if ok = true then .tuple #[(match entAt arr.toList r' with | some e => e.2 | none => te.zero), .bool r'.isSome] else (match entAt arr.toList r' with | some e => e.2 | none => te.zero)) w := by
          intro r' hr'
          have := k2 es arr.toList r' (by simpa using g3') hr'
          simp only [Instr.lookup, Sem.run_bind, run_underlying hu, Result.andThen_ok, run_getObj_map w _ arr clock g2, Sem.run_pure, k1, this]
          cases r' with
          | none => cases ok <;> simp [entAt, hz]
          | some j => cases ok <;> simp [entAt]
        unfold mapGet at hr
        split at hr
        · rename_i i hm
          split at hr
          · rename_i e he
            cases hr
            obtain ⟨m, h1, h2⟩ := find_some he g4
            have := run _ hm
            have hv : entAt arr.toList (some i) = some (i, m.val) := by simp [entAt] at h1 ⊢; rw [h1]; rfl
            rw [hv] at this
            cases ok with
            | true => exact ⟨_, _, this, rfl, by simp only [PRep, DRep, if_true]; exact ⟨[m.val, .bool true], by simp, by simp only [DRepL, DRep]; exact ⟨_, _, rfl, h2, _, _, rfl, rfl, rfl⟩⟩⟩
            | false => exact ⟨_, _, this, rfl, by simpa only [PRep, Bool.false_eq_true, if_false] using h2⟩
          · cases hr
        · rename_i hm
          cases hr
          have := run _ hm
          cases ok with
          | true => exact ⟨_, _, this, rfl, by simp only [PRep, DRep, if_true]; exact ⟨[te.zero, .bool false], by simp [entAt], by simp only [DRepL, DRep]; exact ⟨_, _, rfl, DRep.ofV _, _, _, rfl, rfl, rfl⟩⟩⟩
          | false => exact ⟨_, _, this, rfl, by simp only [PRep, Bool.false_eq_true, if_false]; exact DRep.ofV _⟩
        · cases hr
      · cases hl
    · cases hl
  · cases hl
include hk in
theorem lenMP_run {h : List (Nat × PObj)} {φ : Nat → Nat → Option (Nat × Nat)} (hobj : ∀ id o, find id h = some o → ORep w O φ id o ∧ ∀ b, blk φ id o = some b → b < w.heap.size) {t : Nat} {x : PVal} {n : Int} {cx : Value} (hl : lenMP T h t x = some n) (hx : PRep w O φ x cx) (ty : Nat) :
    (Builtin.len_ #[t] ty #[cx]).run P w = .ok (.int .i64 n) w := by
  unfold lenMP at hl
  split at hl
  · rename_i id
    split at hl
    · rename_i kt el es hkd hf
      have hu : P.underlying t = some (.map kt el) := desc_of hk.tb hkd
      cases hl
      simp only [PRep] at hx
      obtain ⟨b, n, hb, rfl⟩ := hx
      obtain ⟨ho, _⟩ := hobj id _ hf
      simp only [ORep] at ho
      obtain ⟨b', n', arr, clock, g1, g2, g3, g4⟩ := ho
      rw [hb] at g1
      simp only [Option.some.injEq, Prod.mk.injEq] at g1
      obtain ⟨rfl, rfl⟩ := g1
      have hlen := g3.length
      simp only [List.length_map, Array.length_toList] at hlen
      simp [Builtin.len_, run_underlying hu, run_getObj_map w _ arr clock g2, goInt, hlen]
    · cases hl
  · exact lenP_run hk hl hx ty
end
theorem compute_run {P : Program} {T : Nat → Option TI} {eqt : Nat → Option (List CK)} (hk : Kit P T eqt) {E : Env} {S : Nat → Nat → Prop} {φ : Nat → Nat → Option (Nat × Nat)} {st : St} {a : Act} {w : World} (h : Rst E S φ st a w) {o : Oper} {p : PVal} {pre : Prop}
    (hc : computeP T eqt st o.op = some (p, pre)) (hp : pre) : ∃ c, (execOp a.eval o).run P w = .ok (.value c) w ∧ p.und S ∧ PRep w (Held E φ st.heap) φ p c := by
  have hobj := h.objsOK
  have hobj' : ∀ id o, find id st.heap = some o → ORep w (Held E φ st.heap) φ id o ∧ ∀ b, blk φ id o = some b → b < w.heap.size := fun id o ho => ⟨(hobj id o ho).1, (hobj id o ho).2.2⟩
  obtain ⟨dst, op, type, pos, after, guard⟩ := o
  cases op
  case call cl =>
    obtain ⟨cal, args, ts⟩ := cl
    cases cal with
    | value f => simp only [computeP] at hc; cases hc
    | invoke r m => simp only [computeP] at hc; cases hc
    | builtin b =>
      cases b <;> simp only [computeP] at hc <;> (try (cases hc; done))
      case cap =>
        split at hc
        · rename_i x t e1 e2
          split at hc
          · rename_i e id ver s off len hkd e3
            split at hc
            · rename_i e' s' ver' n els hf
              split at hc
              · rename_i hv
                subst hv
                cases hc
                have hun : P.underlying t = some (.slice e) := desc_of hk.tb hkd
                have ha : args = #[x] := by apply Array.ext'; simpa using e1
                have ht : ts = #[t] := by apply Array.ext'; simpa using e2
                subst ha; subst ht
                have g := (h.evs x (gds_mem hp x (by simp))).2
                rw [e3] at g
                have ho := (hobj id _ hf).1
                simp only [PRep, ORep] at g ho
                have hcv : ∃ ad, a.eval x = .slice ad len (n - off) := by
                  rcases g with ⟨q1, q2, q3, q4⟩ | ⟨b, nn, ad, q1, _, q4, _⟩
                  · rcases ho with ⟨_, _, u3⟩ | ⟨b, n', cs, u1, _⟩
                    · have := u3 n rfl; subst this; subst q2; subst q3; exact ⟨none, q4⟩
                    · rw [q1] at u1; cases u1
                  · rcases ho with ⟨u1, _⟩ | ⟨b', n', cs, u1, _, _, u4, _⟩
                    · rw [q1] at u1; cases u1
                    · rw [q1] at u1
                      simp only [Option.some.injEq, Prod.mk.injEq] at u1
                      obtain ⟨rfl, rfl⟩ := u1
                      have := u4 n rfl; subst this; exact ⟨ad, q4⟩
                obtain ⟨ad, g⟩ := hcv
                refine ⟨.int .i64 ((n - off : Nat) : Int), ?_, by simp only [PVal.und], by simp only [PRep, DRep]⟩
                simp only [execOp, resolve, invoke, builtin, Sem.run_bind, Sem.run_pure, Result.andThen_ok, List.map_toArray, List.map_cons, List.map_nil, g]
                simp [Builtin.cap_, run_underlying hun, goInt]
              · cases hc
            · cases hc
          · cases hc
        · cases hc
      case len =>
        split at hc
        · rename_i x t e1 e2
          obtain ⟨q, h1, h2⟩ := Option.map_eq_some_iff.1 hc
          simp only [Prod.mk.injEq] at h2
          obtain ⟨rfl, rfl⟩ := h2
          have ha : args = #[x] := by apply Array.ext'; simpa using e1
          have ht : ts = #[t] := by apply Array.ext'; simpa using e2
          subst ha; subst ht
          refine ⟨.int .i64 q, ?_, by simp only [PVal.und], by simp only [PRep, DRep]⟩
          have := lenMP_run hk hobj' h1 (h.evs x (gds_mem hp x (by simp))).2 type
          simp only [execOp, resolve, invoke, builtin, Sem.run_bind, Sem.run_pure, Result.andThen_ok, List.map_toArray, List.map_cons, List.map_nil, this]
        · cases hc
      case max =>
        split at hc
        · rename_i x y e1
          split at hc
          · rename_i k i k' j h1 h2
            cases hc
            have ha : args = #[x, y] := by apply Array.ext'; simpa using e1
            subst ha
            have g1 := asInt_rep h1 (h.evs x (gds_mem hp x (by simp))).2
            have g2 := asInt_rep h2 (h.evs y (gds_mem hp y (by simp))).2
            refine ⟨.int k (maxI i j), ?_, by simp only [PVal.und], by simp only [PRep, DRep]⟩
            simp only [execOp, resolve, invoke, builtin, Sem.run_bind, Sem.run_pure, Result.andThen_ok, List.map_toArray, List.map_cons, List.map_nil, g1, g2]
            simp [Builtin.max_, Builtin.max2, maxI]
          · cases hc
        · cases hc
      case min =>
        split at hc
        · rename_i x y e1
          split at hc
          · rename_i k i k' j h1 h2
            cases hc
            have ha : args = #[x, y] := by apply Array.ext'; simpa using e1
            subst ha
            have g1 := asInt_rep h1 (h.evs x (gds_mem hp x (by simp))).2
            have g2 := asInt_rep h2 (h.evs y (gds_mem hp y (by simp))).2
            refine ⟨.int k (minI i j), ?_, by simp only [PVal.und], by simp only [PRep, DRep]⟩
            simp only [execOp, resolve, invoke, builtin, Sem.run_bind, Sem.run_pure, Result.andThen_ok, List.map_toArray, List.map_cons, List.map_nil, g1, g2]
            simp [Builtin.min_, Builtin.min2, minI]
          · cases hc
        · cases hc
  all_goals simp only [computeP] at hc
  all_goals (try (cases hc; done))
  case move x =>
    cases hc
    exact ⟨_, by simp [execOp], (h.ev x).1, (h.ev x).2⟩
  case assign x =>
    cases hc
    exact ⟨_, by simp [execOp], (h.ev x).1, (h.ev x).2⟩
  case pick c x y =>
    split at hc
    · rename_i t ht
      obtain ⟨⟨q, pr⟩, h1, h2⟩ := Option.map_eq_some_iff.1 hc
      simp only [Prod.mk.injEq] at h2
      obtain ⟨rfl, rfl⟩ := h2
      have hcv := asBool_rep ht (h.evs c (gds_mem hp.1 c (by simp))).2
      obtain ⟨g1, g2⟩ := pickP_rep (n := S) h1 hp.2 (h.ev x).2 (h.ev y).2
      refine ⟨_, ?_, g1, g2⟩
      cases t <;> simp [execOp, hcv, Go.asBool]
    · cases hc
  case unOp op t x =>
    obtain ⟨q, h1, h2⟩ := Option.map_eq_some_iff.1 hc
    simp only [Prod.mk.injEq] at h2
    obtain ⟨rfl, rfl⟩ := h2
    obtain ⟨v, g1, g2, g3⟩ := unP_rep (P := P) (n := S) h1 (h.evs x (gds_mem hp x (by simp))).2
    exact ⟨v, by simp only [execOp]; exact run_v g1, g2, g3⟩
  case binOp op t x y t' =>
    obtain ⟨⟨q, pr⟩, h1, h2⟩ := Option.map_eq_some_iff.1 hc
    simp only [Prod.mk.injEq] at h2
    obtain ⟨rfl, rfl⟩ := h2
    obtain ⟨c, g1, rfl⟩ := binP_run hk hobj' h1 hp.2 (h.evs x (gds_mem hp.1 x (by simp))).2 (h.evs y (gds_mem hp.1 y (by simp))).2 x y
    exact ⟨c, by simp only [execOp]; exact run_v g1, by simp only [PVal.und], by simp only [PRep, DRep]⟩
  case convert src dst x =>
    split at hc
    case isFalse => cases hc
    rename_i hsrc
    obtain ⟨q, h1, h2⟩ := Option.map_eq_some_iff.1 hc
    simp only [Prod.mk.injEq] at h2
    obtain ⟨rfl, rfl⟩ := h2
    obtain ⟨v, g1, g2, g3⟩ := convP_rep hk (n := S) (underlying_of hk.tb hsrc) h1 (h.evs x (gds_mem hp x (by simp))).2
    exact ⟨v, by simp only [execOp]; exact run_v g1, g2, g3⟩
  case build t parts =>
    obtain ⟨q, h1, h2⟩ := Option.map_eq_some_iff.1 hc
    simp only [Prod.mk.injEq] at h2
    obtain ⟨rfl, rfl⟩ := h2
    obtain ⟨r1, r2⟩ := rep_map_evs h hp
    obtain ⟨v, g1, g2, g3⟩ := buildP_run hk h1 (vals := parts.toList.map fun q => (q.1, a.eval q.2)) (by simp [List.map_map, Function.comp_def]) r2 r1
    refine ⟨v, ?_, g2, g3⟩
    simp only [execOp]
    refine run_v ?_
    have e : (parts.map fun (i, x) => (i, a.eval x)) = (parts.toList.map fun q => (q.1, a.eval q.2)).toArray := by
      apply Array.ext'; simp
    rw [e]; exact g1
  case load t x =>
    obtain ⟨q, h1, h2⟩ := Option.map_eq_some_iff.1 hc
    simp only [Prod.mk.injEq] at h2
    obtain ⟨rfl, rfl⟩ := h2
    obtain ⟨v, g1, g2, g3⟩ := loadP_run hk hobj h1 (h.evs x (gds_mem hp x (by simp))).2
    exact ⟨v, by simp only [execOp]; exact run_v g1, g2, g3⟩
  case nilCheck x =>
    have key : ∀ q : PVal, st.evs x = q → (∀ c, PRep w (Held E φ st.heap) φ q c → ∃ ad, c = .pointer (some ad)) → st.gds [x] →
        ∃ c, (execOp a.eval { dst := dst, op := .nilCheck x, type := type, pos := pos, after := after, guard := guard }).run P w = .ok (.value c) w ∧ q.und S ∧ PRep w (Held E φ st.heap) φ q c := by
      rintro q rfl hq hg
      obtain ⟨g1, g2⟩ := h.evs x (gds_mem hg x (by simp))
      obtain ⟨ad, e⟩ := hq _ g2
      refine ⟨_, ?_, g1, g2⟩
      simp only [execOp, e]; rfl
    split at hc
    · rename_i id k e
      cases hc
      refine key _ e (fun c hc => ?_) hp
      simp only [PRep] at hc; obtain ⟨b, _, _, rfl⟩ := hc; exact ⟨_, rfl⟩
    · rename_i cs e
      cases hc
      refine key _ e (fun c hc => ?_) hp
      simp only [PRep] at hc; obtain ⟨b, _, _, rfl, _⟩ := hc; exact ⟨_, rfl⟩
    · rename_i e
      cases hc
      refine key _ e (fun c hc => ?_) hp
      simp only [PRep] at hc; obtain ⟨b, _, _, rfl⟩ := hc; exact ⟨_, rfl⟩
    · cases hc
  case fieldAddr t x f =>
    obtain ⟨q, h1, h2⟩ := Option.map_eq_some_iff.1 hc
    simp only [Prod.mk.injEq] at h2
    obtain ⟨rfl, rfl⟩ := h2
    have he := h.evs x (gds_mem hp x (by simp))
    obtain ⟨v, g1, g2, g3⟩ := fieldAddrP_run hk h1 he.2 he.1
    exact ⟨v, by simp only [execOp]; exact run_v g1, g2, g3⟩
  case field t x f =>
    obtain ⟨q, h1, h2⟩ := Option.map_eq_some_iff.1 hc
    simp only [Prod.mk.injEq] at h2
    obtain ⟨rfl, rfl⟩ := h2
    have he := h.evs x (gds_mem hp x (by simp))
    obtain ⟨v, g1, g2, g3⟩ := fieldP_run hk h1 he.2 he.1
    exact ⟨v, by simp only [execOp]; exact run_v g1, g2, g3⟩
  case indexAddr t x i =>
    obtain ⟨⟨q, pr⟩, h1, h2⟩ := Option.map_eq_some_iff.1 hc
    simp only [Prod.mk.injEq] at h2
    obtain ⟨rfl, rfl⟩ := h2
    have he := h.evs x (gds_mem hp.1 x (by simp))
    obtain ⟨v, g1, g2, g3⟩ := indexAddrP_run hk h1 hp.2 he.2 (h.evs i (gds_mem hp.1 i (by simp))).2 he.1
    exact ⟨v, by simp only [execOp]; exact run_v g1, g2, g3⟩
  case lookup t x ix ok =>
    obtain ⟨⟨q, pr⟩, h1, h2⟩ := Option.map_eq_some_iff.1 hc
    simp only [Prod.mk.injEq] at h2
    obtain ⟨rfl, rfl⟩ := h2
    obtain ⟨d, v, g1, rfl, g2⟩ := lookupP_run hk hobj' h1 hp.2 (h.evs x (gds_mem hp.1 x (by simp))).2 (h.evs ix (gds_mem hp.1 ix (by simp))).2
    exact ⟨v, by simp only [execOp]; exact run_v g1, by simp only [PVal.und], g2⟩
  case index t x i =>
    obtain ⟨⟨q, pr⟩, h1, h2⟩ := Option.map_eq_some_iff.1 hc
    simp only [Prod.mk.injEq] at h2
    obtain ⟨rfl, rfl⟩ := h2
    have he := h.evs x (gds_mem hp.1 x (by simp))
    obtain ⟨v, g1, g2, g3⟩ := indexP_run hk (n := S) h1 hp.2 he.2 (h.evs i (gds_mem hp.1 i (by simp))).2
    exact ⟨v, by simp only [execOp]; exact run_v g1, g2, g3⟩
  case slice t x lo hi mx =>
    split at hc
    · rename_i l hh m e1 e2 e3
      obtain ⟨⟨q, pr⟩, h1, h2⟩ := Option.map_eq_some_iff.1 hc
      simp only [Prod.mk.injEq] at h2
      obtain ⟨rfl, rfl⟩ := h2
      have he := h.evs x (gds_mem hp.1 x (by simp))
      obtain ⟨v, g1, g2, g3⟩ := sliceP_run hk (optInt_rep h e1) (optInt_rep h e2) (optInt_rep h e3) (rm := roomOf st.heap (st.evs x)) (roomOf_rep h) h1 hp.2 he.2 he.1
      exact ⟨v, by simp only [execOp]; exact run_v g1, g2, g3⟩
    · cases hc
  case extract x i =>
    split at hc
    · rename_i vs e
      obtain ⟨q, h1, h2⟩ := Option.map_eq_some_iff.1 hc
      simp only [Prod.mk.injEq] at h2
      obtain ⟨rfl, rfl⟩ := h2
      obtain ⟨g1, g2⟩ := h.ev x
      rw [e] at g1 g2
      simp only [PRep, PVal.und] at g1 g2
      obtain ⟨cs, e2, g2⟩ := g2
      obtain ⟨c, e3, g3⟩ := g2.get h1
      refine ⟨c, ?_, undL_get g1 h1, g3⟩
      simp only [execOp]
      refine run_v ?_
      rw [e2]
      simp [Instr.extract, e3]
    · rename_i ds e
      obtain ⟨q, h1, h2⟩ := Option.map_eq_some_iff.1 hc
      simp only [Prod.mk.injEq] at h2
      obtain ⟨rfl, rfl⟩ := h2
      obtain ⟨g1, g2⟩ := h.ev x
      rw [e] at g1 g2
      simp only [PRep, DRep, PVal.und] at g1 g2
      obtain ⟨cs, e2, g2⟩ := g2
      obtain ⟨c, e3, g3⟩ := g2.get h1
      refine ⟨c, ?_, by simp only [PVal.und], by simpa only [PRep] using g3⟩
      simp only [execOp]
      refine run_v ?_
      rw [e2]
      simp [Instr.extract, e3]
    · cases hc
  case makeFunc fn first cap =>
    cases hc
    have hall := gds_mem hp
    obtain ⟨u1, r1⟩ := h.evL (l := first.toList) fun x hx => hall x (by simp [hx])
    obtain ⟨u2, r2⟩ := h.evL (l := cap.toList) fun x hx => hall x (by simp [hx])
    refine ⟨.func fn (first.map a.eval) (cap.map a.eval), ?_, by simp only [PVal.und]; exact ⟨u1, u2⟩, ?_⟩
    · simp only [execOp, Instr.makeFunc]; rfl
    · simp only [PRep]
      refine ⟨first.toList.map a.eval, cap.toList.map a.eval, ?_, r1, r2⟩
      congr 1 <;> (apply Array.ext'; simp)
  case makeInterface t x =>
    split at hc
    · rename_i hi
      cases hc
      obtain ⟨g1, g2⟩ := h.evs x (gds_mem hp x (by simp))
      refine ⟨.iface t (a.eval x), ?_, by simpa only [PVal.und] using g1, by simp only [PRep]; exact ⟨_, rfl, g2⟩⟩
      simp only [execOp]
      refine run_v ?_
      cases hT : T t with
      | none => simp [hT] at hi
      | some ti =>
        simp only [hT, Option.any_some, Bool.and_eq_true] at hi
        have hd := (hk.tb t ti hT).desc
        cases hkd : ti.kind with
        | other => rw [hkd] at hi; simp [TK.known] at hi
        | iface => rw [hkd] at hi; simp at hi
        | struct fs => rw [hkd] at hd; obtain ⟨fields, hu, _⟩ := hd; simp [Instr.makeInterface, run_underlying hu]
        | func => rw [hkd] at hd; obtain ⟨_, _, _, hu⟩ := hd; simp [Instr.makeInterface, run_underlying hu]
        | _ => rw [hkd] at hd; have hu : P.underlying t = _ := hd; simp [Instr.makeInterface, run_underlying hu]
    · cases hc
end Go.Proofs.Ytdodgbhodkcckaa.Pv
end
section
set_option linter.unusedVariables false
set_option linter.unusedSimpArgs false
set_option autoImplicit false
namespace Go.Proofs.Ytdodgbhodkcckaa.Pv
open Go Go.RowKit
def phi (φ : Nat → Nat → Option (Nat × Nat)) (id ver : Nat) (x : Option (Nat × Nat)) : Nat → Nat → Option (Nat × Nat) := fun i v => if i = id ∧ v = ver then x else φ i v
def also (S : Nat → Nat → Prop) (id ver : Nat) : Nat → Nat → Prop := fun i v => S i v ∨ (i = id ∧ v = ver)
theorem phi_same (φ : Nat → Nat → Option (Nat × Nat)) (id ver : Nat) (x : Option (Nat × Nat)) : phi φ id ver x id ver = x := by simp [phi]
theorem phi_old {φ : Nat → Nat → Option (Nat × Nat)} {S : Nat → Nat → Prop} {id ver : Nat} {x : Option (Nat × Nat)} (hn : ¬ S id ver) (i v : Nat) (h : S i v) : phi φ id ver x i v = φ i v := by
  simp only [phi]; split
  · rename_i e; obtain ⟨rfl, rfl⟩ := e; exact absurd h hn
  · rfl
theorem PRepL.ones {w : World} {O : Nat → Prop} {φ : Nat → Nat → Option (Nat × Nat)} : ∀ {ps : List PVal} {cs : List Value}, PRepL w O φ ps cs → ps.all PVal.one = true → ∀ v ∈ cs, v.oneCell' = true
  | [], cs, h, _, v, hv => by simp only [PRepL] at h; subst h; simp at hv
  | p :: ps, cs, h, ha, v, hv => by
    simp only [PRepL] at h
    obtain ⟨c, cs', rfl, h1, h2⟩ := h
    simp only [List.all_cons, Bool.and_eq_true] at ha
    rcases List.mem_cons.1 hv with rfl | hv
    · obtain ⟨ha, _⟩ := ha
      cases p with
      | d x =>
        simp only [PRep] at h1
        simp only [PVal.one] at ha
        cases x with
        | v x => simp only [DRep] at h1; subst h1; cases v <;> simp_all [D.one, Value.oneCell']
        | agg ds => simp [D.one] at ha
        | tup ds => simp [D.one] at ha
        | slc s els => simp only [DRep] at h1; obtain ⟨_, _, rfl, _⟩ := h1; rfl
        | ifc t q => simp only [DRep] at h1; obtain ⟨_, rfl, _⟩ := h1; rfl
        | fn f u v => simp only [DRep] at h1; obtain ⟨_, _, rfl, _⟩ := h1; rfl
        | ptr ds => simp only [DRep] at h1; obtain ⟨_, _, _, rfl, _⟩ := h1; rfl
      | agg ps => simp [PVal.one] at ha
      | tup ps => simp [PVal.one] at ha
      | ref id k => simp only [PRep] at h1; obtain ⟨_, _, _, rfl⟩ := h1; rfl
      | refE id ver s i k => simp only [PRep] at h1; obtain ⟨_, _, _, rfl⟩ := h1; rfl
      | own id ver s off len => simp only [PRep] at h1; rcases h1 with ⟨_, _, _, rfl⟩ | ⟨_, _, _, _, _, rfl, _⟩ <;> rfl
      | mp id => simp only [PRep] at h1; obtain ⟨_, _, _, rfl⟩ := h1; rfl
      | clo f x y => simp only [PRep] at h1; obtain ⟨_, _, rfl, _⟩ := h1; rfl
      | ifc t q => simp only [PRep] at h1; obtain ⟨_, rfl, _⟩ := h1; rfl
      | gd b q => simp [PVal.one] at ha
      | dead => simp [PVal.one] at ha
    · exact PRepL.ones h2 ha.2 v hv
theorem DRepL.ones {w : World} {O : Nat → Prop} {ds : List D} {cs : List Value} (h : DRepL w O ds cs) (ha : ds.all D.one = true) : ∀ v ∈ cs, v.oneCell' = true :=
  PRepL.ones (φ := fun _ _ => none) (PRepL.ds h) (by simpa [List.all_map, Function.comp_def, PVal.one] using ha)
theorem DRepE.cells {w : World} {O : Nat → Prop} {b s : Nat} : ∀ {es : List D} {off : Nat}, DRepE w O b s es off → (∀ d ∈ es, d.cells.all D.one = true) →
    ∃ cs : List Value, cs.length = es.length * s ∧ CellsAt w b off cs ∧ (∀ v ∈ cs, v.oneCell' = true) ∧ (∀ i x, es[i]? = some x → ∃ c, DRep w O x c ∧ c.cells.size = s ∧ ∀ j v, c.cells.toList[j]? = some v → cs[i * s + j]? = some v)
  | [], off, h, h1 => ⟨[], by simp, by intro j hj; simp at hj, by simp, by simp⟩
  | e :: es, off, h, h1 => by
    simp only [DRepE] at h
    obtain ⟨⟨c, g1, g2, g3⟩, g4⟩ := h
    obtain ⟨cs, q1, q2, q3, q4⟩ := DRepE.cells g4 (fun d hd => h1 d (by simp [hd]))
    have hcl : c.cells.toList.length = s := by simpa using g2
    refine ⟨c.cells.toList ++ cs, by rw [List.length_append, hcl, q1, List.length_cons, Nat.add_mul]; omega, g3.append (by rw [hcl]; exact q2), ?_, ?_⟩
    · intro v hv
      rcases List.mem_append.1 hv with hv | hv
      · exact DRepL.ones g1.cells (h1 e (by simp)) v hv
      · exact q3 v hv
    · intro i x hi
      cases i with
      | zero =>
        simp at hi; subst hi
        refine ⟨c, g1, g2, fun j v hj => ?_⟩
        have : j < c.cells.toList.length := (List.getElem?_eq_some_iff.1 hj).1
        rw [List.getElem?_append_left (by simpa using this)]
        simpa using hj
      | succ i =>
        obtain ⟨c', r1, r2, r3⟩ := q4 i x (by simpa using hi)
        refine ⟨c', r1, r2, fun j v hj => ?_⟩
        have := r3 j v hj
        rw [List.getElem?_append_right (by rw [hcl, Nat.add_mul]; omega), hcl, ← this]
        congr 1; rw [Nat.add_mul]; omega
section
variable {E : Env} {S S' : Nat → Nat → Prop} {φ : Nat → Nat → Option (Nat × Nat)} {st : St} {a : Act} {w : World}
theorem heap_new (w : World) (o : Obj) : (w.alloc o).heap[w.heap.size]? = some o := heap_alloc_new w o
theorem held_set {id : Nat} {o' : PObj} {φ' : Nat → Nat → Option (Nat × Nat)} (h : Rst E S φ st a w) (hφ : ∀ i v, S i v → φ' i v = φ i v)
    (hblk : ∀ b, blk φ' id o' = some b → w.heap.size ≤ b ∨ ∃ o, find id st.heap = some o ∧ blk φ id o = some b) : ∀ b, b < w.heap.size → Held E φ' (upd id o' st.heap) b → Held E φ st.heap b := by
  rintro b hlt (hb | ⟨i, o, hi, hb⟩)
  · exact .inl hb
  · right
    by_cases e : i = id
    · subst e
      rw [find_upd_same] at hi; cases hi
      rcases hblk b hb with h1 | ⟨o, h1, h2⟩
      · omega
      · exact ⟨i, o, h1, h2⟩
    · rw [find_upd_other e] at hi
      exact ⟨i, o, hi, by rw [← blk_congr (hφ _ _ (h.objs i o hi).1)]; exact hb⟩
theorem Rst.boxN (m : Nat) (h : Rst E S φ st a w) {id : Nat} (hid : ∀ v, ¬ S id v) (ty : TypeId) {cells : List PVal} {cs : List Value} (hu : undL S cells) (hr : PRepL w (Held E φ st.heap) φ cells cs) :
    Rst E (also S id 0) (phi φ id 0 (some (w.heap.size, m))) { st with heap := upd id (.box cells) st.heap } a (w.alloc (.cells cs.toArray ty)) := by
  have hφ := phi_old (φ := φ) (x := some (w.heap.size, m)) (hid 0)
  have hblk : ∀ b, blk (phi φ id 0 (some (w.heap.size, m))) id (.box cells) = some b → b = w.heap.size := by
    intro b hb; simp only [blk, phi_same, Option.map_some, Option.some.injEq] at hb; exact hb.symm
  refine h.set rfl rfl rfl (by simp) (fun b hb _ => heap_alloc_old w _ b hb) (fun i v h => .inl h) hφ (.inr ⟨rfl, rfl⟩) ?_ ?_ ?_ ?_ ?_
  · rintro v (hv | ⟨_, rfl⟩)
    · exact absurd hv (hid v)
    · exact Nat.le_refl _
  · rintro i v hne (hv | ⟨rfl, _⟩)
    · exact hv
    · exact absurd rfl hne
  · simp only [PObj.und]; exact undL_mono (fun _ _ h => .inl h) _ hu
  · intro b hb
    have := hblk b hb; subst this
    exact ⟨by simp, .inl (Nat.le_refl _)⟩
  · simp only [ORep]
    refine ⟨_, _, cs, ty, phi_same .., heap_new w _, ?_⟩
    exact PRepL.keep (n := S) (keeps_below (below_new w _)) (held_set h hφ (fun b hb => .inl (Nat.le_of_eq (hblk b hb).symm))) hφ cells cs hu hr
theorem Rst.box (h : Rst E S φ st a w) {id : Nat} (hid : ∀ v, ¬ S id v) (ty : TypeId) {cells : List PVal} {cs : List Value} (hu : undL S cells) (hr : PRepL w (Held E φ st.heap) φ cells cs) :
    Rst E (also S id 0) (phi φ id 0 (some (w.heap.size, 0))) { st with heap := upd id (.box cells) st.heap } a (w.alloc (.cells cs.toArray ty)) := Rst.boxN 0 h hid ty hu hr
theorem Rst.newMap (h : Rst E S φ st a w) {id : Nat} (hid : ∀ v, ¬ S id v) :
    Rst E (also S id 0) (phi φ id 0 (some (w.heap.size, 0))) { st with heap := upd id (.map []) st.heap } a (w.alloc (.map #[] 0)) := by
  have hφ := phi_old (φ := φ) (x := some (w.heap.size, 0)) (hid 0)
  have hblk : ∀ b, blk (phi φ id 0 (some (w.heap.size, 0))) id (.map []) = some b → b = w.heap.size := by
    intro b hb; simp only [blk, phi_same, Option.map_some, Option.some.injEq] at hb; exact hb.symm
  refine h.set rfl rfl rfl (by simp) (fun b hb _ => heap_alloc_old w _ b hb) (fun i v h => .inl h) hφ (.inr ⟨rfl, rfl⟩) ?_ ?_ ?_ ?_ ?_
  · rintro v (hv | ⟨_, rfl⟩)
    · exact absurd hv (hid v)
    · exact Nat.le_refl _
  · rintro i v hne (hv | ⟨rfl, _⟩)
    · exact hv
    · exact absurd rfl hne
  · simp only [PObj.und]
  · intro b hb
    have := hblk b hb; subst this
    exact ⟨by simp, .inl (Nat.le_refl _)⟩
  · simp only [ORep]
    exact ⟨_, _, #[], 0, phi_same .., heap_new w _, by simp [DRepL], by simp [DRepL]⟩
theorem Rst.row (h : Rst E S φ st a w) {w' : World} {id ver b n e s : Nat} {room : Option Nat} {els : List D} {cs : List Value}
    (hos : w'.os = w.os) (htape : w'.tape = w.tape) (hout : w'.output = w.output) (hsize : w.heap.size ≤ w'.heap.size)
    (hblock : ∀ b, b < w.heap.size → (∀ o, find id st.heap = some o → blk φ id o ≠ some b) → w'.heap[b]? = w.heap[b]?)
    (hver : ∀ v, S id v → v < ver) (hbs : b < w'.heap.size) (hbw : w.heap.size ≤ b ∨ ∃ o, find id st.heap = some o ∧ blk φ id o = some b)
    (hobj : w'.heap[b]? = some (.cells cs.toArray e (0, 0))) (hl : els.length ≤ n) (hm : n ≤ maxLen) (hro : ∀ m, room = some m → m = n) (hcs : cs.length = n * s)
    (hr : ∀ i x, els[i]? = some x → ∃ c, DRep w (Held E φ st.heap) x c ∧ c.cells.size = s ∧ ∀ j v, c.cells.toList[j]? = some v → cs[i * s + j]? = some v) :
    Rst E (also S id ver) (phi φ id ver (some (b, n))) { st with heap := upd id (.arr e s ver room els) st.heap } a w' := by
  have hnew : ¬ S id ver := fun hc => Nat.lt_irrefl _ (hver _ hc)
  have hφ := phi_old (φ := φ) (x := some (b, n)) hnew
  have hblk : ∀ c, blk (phi φ id ver (some (b, n))) id (.arr e s ver room els) = some c → c = b := by
    intro c hb; simp only [blk, phi_same, Option.map_some, Option.some.injEq] at hb; exact hb.symm
  have hk : Keeps (Held E φ st.heap) w w' := ⟨hsize, fun c hlt hc => hblock c hlt fun o hf he => hc (.inr ⟨id, o, hf, he⟩)⟩
  have hO := held_set (o' := .arr e s ver room els) h hφ (fun c hc => by rw [hblk c hc]; exact hbw)
  refine h.set hos htape hout hsize hblock (fun i v h => .inl h) hφ (.inr ⟨rfl, rfl⟩) ?_ ?_ (by simp only [PObj.und]) ?_ ?_
  · rintro v (hv | ⟨_, rfl⟩)
    · exact Nat.le_of_lt (hver v hv)
    · exact Nat.le_refl _
  · rintro i v hne (hv | ⟨rfl, _⟩)
    · exact hv
    · exact absurd rfl hne
  · intro c hc
    have := hblk c hc; subst this
    exact ⟨hbs, hbw⟩
  · simp only [ORep]
    refine .inr ⟨b, n, cs, phi_same .., hl, hm, hro, hobj, hcs, DRepE.of fun i x hx => ?_⟩
    obtain ⟨c, h1, h2, h3⟩ := hr i x hx
    refine ⟨c, DRep.keep hk hO x c h1, h2, fun j hj => ?_⟩
    rw [cell_of_row _ _ _ _ _ _ hobj]
    have := h3 j _ (List.getElem?_eq_getElem hj)
    rw [Nat.zero_add]
    simpa using this
theorem Rst.nilRow (h : Rst E S φ st a w) {id ver : Nat} (hver : ∀ v, S id v → v < ver) (e s : Nat) :
    Rst E (also S id ver) (phi φ id ver none) { st with heap := upd id (.arr e s ver none []) st.heap } a w := by
  have hnew : ¬ S id ver := fun hc => Nat.lt_irrefl _ (hver _ hc)
  have hφ := phi_old (φ := φ) (x := none) hnew
  refine h.set rfl rfl rfl (Nat.le_refl _) (fun _ _ _ => rfl) (fun i v h => .inl h) hφ (.inr ⟨rfl, rfl⟩) ?_ ?_ (by simp only [PObj.und]) ?_ ?_
  · rintro v (hv | ⟨_, rfl⟩)
    · exact Nat.le_of_lt (hver v hv)
    · exact Nat.le_refl _
  · rintro i v hne (hv | ⟨rfl, _⟩)
    · exact hv
    · exact absurd rfl hne
  · intro b hb; simp [blk, phi_same] at hb
  · simp only [ORep, phi_same]; simp
end
end Go.Proofs.Ytdodgbhodkcckaa.Pv
end
section
set_option linter.unusedVariables false
set_option linter.unusedSectionVars false
set_option linter.unusedSimpArgs false
set_option autoImplicit false
namespace Go.Proofs.Ytdodgbhodkcckaa.Pv
open Go Go.RowKit
theorem find_delAll : ∀ (ids : List Nat) (h : List (Nat × PObj)) (i : Nat), find i (delAll ids h) = if i ∈ ids then none else find i h
  | [], h, i => by simp [delAll]
  | id :: ids, h, i => by
    simp only [delAll]
    rw [find_delAll ids _ i]
    by_cases e : i = id
    · subst e; simp [find_del_same]
    · simp [e, find_del_other e]
theorem find_delAll_some {ids : List Nat} {h : List (Nat × PObj)} {i : Nat} {o : PObj} (hf : find i (delAll ids h) = some o) : i ∉ ids ∧ find i h = some o := by
  rw [find_delAll] at hf
  split at hf
  · cases hf
  · rename_i hn; exact ⟨hn, hf⟩
theorem app_eq (st : St) (dst : Option Nat) (e : Eff) : st.app dst e = ({ st with heap := updAll e.upds (delAll e.dels st.heap) } : St).put dst e.val := by cases dst <;> rfl
section
variable {E : Env} {S S' : Nat → Nat → Prop} {φ : Nat → Nat → Option (Nat × Nat)} {st : St} {a : Act} {w : World}
theorem Rst.give (h : Rst E S φ st a w) (ids : List Nat) : Rst E S φ { st with heap := delAll ids st.heap } a w := h.fewer fun _ _ hf => (find_delAll_some hf).2
theorem Rst.notHeld (h : Rst E S φ st a w) {ids : List Nat} {id : Nat} {o : PObj} {b : Nat} (hid : id ∈ ids) (ho : find id st.heap = some o) (hb : blk φ id o = some b) : ¬ Held E φ (delAll ids st.heap) b := by
  rintro (hx | ⟨i, o', hi, hbi⟩)
  · exact h.notOut ho hb hx
  · obtain ⟨h1, h2⟩ := find_delAll_some hi
    exact h1 (h.inj i id o' o b h2 ho hbi hb ▸ hid)
theorem held_give (ids : List Nat) {b : Nat} (h : Held E φ (delAll ids st.heap) b) : Held E φ st.heap b := by
  rcases h with hx | ⟨i, o', hi, hbi⟩
  · exact .inl hx
  · exact .inr ⟨i, o', (find_delAll_some hi).2, hbi⟩
theorem Rst.objs' (h : Rst E S φ st a w) : ∀ id o, find id st.heap = some o → ORep w (Held E φ st.heap) φ id o ∧ ∀ b, blk φ id o = some b → b < w.heap.size :=
  fun id o ho => ⟨(h.objs id o ho).2.2.2.2, fun b hb => ((h.objs id o ho).2.2.2.1 b hb).1⟩
theorem Rst.giveD (h : Rst E S φ st a w) {ids : List Nat} {p : PVal} {d : D} {c : Value} (hi : ∀ i ∈ p.ids, i ∈ ids) (hd : p.toD st.heap = some d) (hr : PRep w (Held E φ st.heap) φ p c) : DRep w (Held E φ (delAll ids st.heap)) d c :=
  toD_rep h.objs' (fun _ => held_give ids) p d c hd (fun id o b hm ho hb => h.notHeld (hi id hm) ho hb) hr
theorem Rst.giveDL (h : Rst E S φ st a w) {ids : List Nat} {ps : List PVal} {ds : List D} {cs : List Value} (hi : ∀ i ∈ idsL ps, i ∈ ids) (hd : toDL st.heap ps = some ds) (hr : PRepL w (Held E φ st.heap) φ ps cs) : DRepL w (Held E φ (delAll ids st.heap)) ds cs :=
  toDL_rep h.objs' (fun _ => held_give ids) ps ds cs hd (fun id o b hm ho hb => h.notHeld (hi id hm) ho hb) hr
def After (E : Env) (S : Nat → Nat → Prop) (φ : Nat → Nat → Option (Nat × Nat)) (st : St) (n : Nat) (nid : Nat → Nat) (dst : Option Nat) (e : Eff) (a' : Act) (w' : World) : Prop :=
  a'.tmps.size = n ∧ ∃ φ' S', Rst E S' φ' (st.app dst e) a' w' ∧ (∀ i v, S i v → S' i v ∧ φ' i v = φ i v) ∧ ∀ i v, S' i v → (∃ v', S i v') ∨ ∃ j, j < 4 ∧ i = nid j
theorem Rst.after {S0 : Nat → Nat → Prop} {φ0 : Nat → Nat → Option (Nat × Nat)} {dst : Option Nat} {e : Eff} {nid : Nat → Nat} {c : Value} (h : Rst E S' φ { st with heap := updAll e.upds (delAll e.dels st.heap) } a w) (hd : ∀ d, dst = some d → d < a.tmps.size)
    (hu : e.val.und S') (hp : PRep w (Held E φ (updAll e.upds (delAll e.dels st.heap))) φ e.val c) (hm : ∀ i v, S0 i v → S' i v ∧ φ i v = φ0 i v) (hn : ∀ i v, S' i v → (∃ v', S0 i v') ∨ ∃ j, j < 4 ∧ i = nid j) : After E S0 φ0 st a.tmps.size nid dst e (a.put dst c) w :=
  ⟨put_size _ _ _, φ, S', by rw [app_eq]; exact h.put hd hu hp, hm, hn⟩
theorem also_new {id ver : Nat} {nid : Nat → Nat} (h : (∃ v, S id v) ∨ ∃ j, j < 4 ∧ id = nid j) : ∀ i v, also S id ver i v → (∃ v', S i v') ∨ ∃ j, j < 4 ∧ i = nid j := by
  rintro i v (hv | ⟨rfl, rfl⟩)
  · exact .inl ⟨v, hv⟩
  · exact h
end
theorem wp_value {P : Program} {o : Oper} {a : Act} {w w' : World} {K : Act → World → Prop} {Q : Exit → Act → World → Prop} {c : Value} (h : (execOp a.eval o).run P w = .ok (.value c) w') (hk : K (a.put o.dst c) w') : o.wp P a w K Q := by
  unfold Oper.wp; rw [h]; exact hk
theorem wp_skipped {P : Program} {o : Oper} {a : Act} {w w' : World} {K : Act → World → Prop} {Q : Exit → Act → World → Prop} (h : (execOp a.eval o).run P w = .ok .skip w') (hk : K (a.put o.dst undef) w') : o.wp P a w K Q := by
  unfold Oper.wp; rw [h]; exact hk
section
variable {P : Program} {T : Nat → Option TI} {eqt : Nat → Option (List CK)} (hk : Kit P T eqt) {E : Env} {S : Nat → Nat → Prop} {φ : Nat → Nat → Option (Nat × Nat)} {st : St} {a : Act} {w : World} {o : Oper} {nid : Nat → Nat} {e : Eff} {Q : Exit → Act → World → Prop}
include hk in
theorem alloc_run (h : Rst E S φ st a w) (hd : ∀ d, o.dst = some d → d < a.tmps.size) (hn : ∀ j v, ¬ S (nid j) v) {t : Nat} {ti : TI} (hop : o.op = .alloc t) (ht : T t = some ti)
    (he : e = ⟨.ref (nid 0) 0, [], [(nid 0, .box (zeroCells ti.zero))]⟩) : o.wp P a w (After E S φ st a.tmps.size nid o.dst e) Q := by
  subst he
  have hz := run_zeroValue_T (P := P) hk.tb ht w
  refine wp_value (c := .pointer (some ⟨w.heap.size, 0, none⟩)) (w' := w.alloc (.cells ti.zero.cells t)) ?_ ?_
  · simp only [execOp, hop, Instr.alloc]
    refine run_v ?_
    simp only [Sem.run_bind, hz, Result.andThen_ok]
    simp [newVar, newRow]
  · have hb := h.box (hn 0) t (zero_und ti.zero S) (zero_rep (φ := φ) ti.zero)
    refine Rst.after (by simpa [updAll, delAll] using hb) hd ?_ ?_ (fun i v h => ⟨.inl h, phi_old (hn 0 0) i v h⟩) (also_new (.inr ⟨0, by omega, rfl⟩))
    · simp only [PVal.und]; exact .inr ⟨rfl, rfl⟩
    · simp only [PRep]; exact ⟨_, _, phi_same .., rfl⟩
include hk in
theorem box_run (h : Rst E S φ st a w) (hd : ∀ d, o.dst = some d → d < a.tmps.size) (hn : ∀ j v, ¬ S (nid j) v) {t : Nat} {ti : TI} {x : Operand} (hop : o.op = .box t x) (ht : T t = some ti) (hto : (st.evs x).told = true) (hg : st.gds [x])
    (he : e = ⟨.ref (nid 0) 0, [], [(nid 0, .box (st.evs x).cells)]⟩) : o.wp P a w (After E S φ st a.tmps.size nid o.dst e) Q := by
  subst he
  obtain ⟨u1, r1⟩ := h.evs x (gds_mem hg x (by simp))
  have hcells := PRep.cells (p := st.evs x) (by intro b q e; rw [e] at hto; simp [PVal.told] at hto) (by intro e; rw [e] at hto; simp [PVal.told] at hto) r1
  refine wp_value (c := .pointer (some ⟨w.heap.size, 0, none⟩)) (w' := w.alloc (.cells (a.eval x).cells t)) ?_ ?_
  · simp only [execOp, hop, Instr.box]
    refine run_v ?_
    simp [newVar, newRow]
  · have hb := h.box (hn 0) t (und_cells u1) hcells
    refine Rst.after (by simpa [updAll, delAll] using hb) hd ?_ ?_ (fun i v h => ⟨.inl h, phi_old (hn 0 0) i v h⟩) (also_new (.inr ⟨0, by omega, rfl⟩))
    · simp only [PVal.und]; exact .inr ⟨rfl, rfl⟩
    · simp only [PRep]; exact ⟨_, _, phi_same .., rfl⟩
theorem fill_all {s : Nat} : ∀ (vals : List (Nat × Value)) (k : Nat) (A : Array Value), vals.map (·.1) = List.range' k vals.length → (∀ q ∈ vals, q.2.cells.size = s) → (k + vals.length) * s ≤ A.size →
    ∃ A', Instr.fill (fun i => some (i * s, s)) A vals = some A' ∧ A'.size = A.size ∧ (∀ i, i < k * s → A'[i]? = A[i]?) ∧ (∀ i q, vals[i]? = some q → ∀ j v, q.2.cells.toList[j]? = some v → A'[(k + i) * s + j]? = some v)
  | [], k, A, _, _, _ => ⟨A, rfl, rfl, fun _ _ => rfl, by simp⟩
  | (i0, v) :: vals, k, A, hm, hs, hl => by
    simp only [List.map_cons, List.length_cons, List.range'_succ, List.cons.injEq] at hm
    obtain ⟨rfl, hm⟩ := hm
    have hvs : v.cells.size = s := hs (i0, v) (by simp)
    have hvl : v.cells.toList.length = s := by simpa using hvs
    have hle : i0 * s + s ≤ A.size := by
      refine Nat.le_trans ?_ hl
      rw [← Nat.succ_mul]; exact Nat.mul_le_mul_right _ (by simp only [List.length_cons]; omega)
    have hfl := foldl_splice A v.cells.toList (i0 * s) (by omega)
    have hsz : (splice A.toList (i0 * s) v.cells.toList).length = A.size := by rw [length_splice' _ _ _ (by simp; omega)]; simp
    obtain ⟨A', h1, h2, h3, h4⟩ := fill_all vals (i0 + 1) (splice A.toList (i0 * s) v.cells.toList).toArray (by simpa using hm) (fun q hq => hs q (by simp [hq])) (by simp only [List.size_toArray, hsz]; simp only [List.length_cons] at hl; rw [show i0 + 1 + vals.length = i0 + (vals.length + 1) by omega]; exact hl)
    simp only [List.size_toArray, hsz] at h2
    refine ⟨A', ?_, h2, ?_, ?_⟩
    · simp only [Instr.fill, hvs]
      rw [if_neg (by simp; omega), ← h1, ← hfl]
      congr 1
      rw [← Array.foldl_toList]
      simp [Array.toList_zipIdx]
    · intro i hi
      rw [h3 i (by rw [Nat.add_mul]; omega)]
      rw [List.getElem?_toArray, splice_get _ _ _ _ (by simp; omega), if_neg (by omega)]
      simp
    · intro i q hq j u hj
      cases i with
      | zero =>
        simp only [List.getElem?_cons_zero, Option.some.injEq] at hq; subst hq
        have hjl : j < s := by rw [← hvl]; exact (List.getElem?_eq_some_iff.1 hj).1
        rw [Nat.add_zero, h3 _ (by rw [Nat.add_mul]; omega), List.getElem?_toArray, splice_get _ _ _ _ (by simp; omega), if_pos (by omega), ← hj]
        congr 1; omega
      | succ i =>
        have := h4 i q (by simpa using hq) j u hj
        rw [show i0 + (i + 1) = i0 + 1 + i by omega]; exact this
theorem DRepL.cell {w : World} {O : Nat → Prop} {d : D} {c : Value} (h : DRep w O d c) : c.cells.size = d.cells.length := by
  have := h.cells.length; simpa using this
include hk in
theorem buildSlice_run (h : Rst E S φ st a w) (hd : ∀ d, o.dst = some d → d < a.tmps.size) (hn : ∀ j v, ¬ S (nid j) v) {t len el : Nat} {te : TI} {parts : Array (Nat × Operand)} {ds : List D} (hop : o.op = .buildSlice t len parts)
    (hkd : kindOf T t = some (.slice el)) (ht : T el = some te) (hds : toDL st.heap (parts.toList.map fun q => st.evs q.2) = some ds)
    (hp : parts.toList.map (·.1) = List.range len) (hlim : len * te.size ≤ 16777216) (hone : ∀ d ∈ ds, d.cells.length = te.size ∧ d.cells.all D.one = true) (hg : st.gds (parts.toList.map (·.2))) (hlm : len ≤ maxLen)
    (he : e = ⟨.own (nid 0) 0 te.size 0 len, idsL (parts.toList.map fun q => st.evs q.2), [(nid 0, .arr el te.size 0 (some len) ds)]⟩) : o.wp P a w (After E S φ st a.tmps.size nid o.dst e) Q := by
  subst he
  have hun : P.underlying t = some (.slice el) := desc_of hk.tb hkd
  have hsz := run_sizeOf_T (P := P) hk.tb ht w
  have hz := run_zeroValue_T (P := P) hk.tb ht w
  obtain ⟨u1, r1⟩ := rep_map_evs h hg
  have e1 : (parts.toList.map fun q => (q.1, st.evs q.2)).map (·.2) = parts.toList.map fun q => st.evs q.2 := by simp [List.map_map, Function.comp_def]
  rw [e1] at r1
  have rd := h.giveDL (ids := idsL (parts.toList.map fun q => st.evs q.2)) (fun i hi => hi) hds r1
  have hvl : (parts.toList.map fun q => (q.1, a.eval q.2)).map (·.1) = List.range len := by rw [← hp]; simp [List.map_map, Function.comp_def]
  have hlen : (parts.toList.map fun q => (q.1, a.eval q.2)).length = len := by have := congrArg List.length hvl; simpa using this
  have hdl : ds.length = len := by have := rd.length; simp at this; rw [← this]; simpa using hlen
  have hcells : ∀ q ∈ (parts.toList.map fun q => (q.1, a.eval q.2)), q.2.cells.size = te.size := by
    intro q hq
    obtain ⟨i, hi⟩ := List.getElem?_of_mem hq
    have hil : i < ds.length := by rw [hdl, ← hlen]; exact (List.getElem?_eq_some_iff.1 hi).1
    obtain ⟨c, g1, g2⟩ := rd.get (List.getElem?_eq_getElem hil)
    have : c = q.2 := by
      rw [List.map_map] at g1
      simp only [List.getElem?_map] at g1 hi
      cases hpi : parts.toList[i]? with
      | none => simp [hpi] at hi
      | some z => simp [hpi] at hi g1; rw [← g1, ← hi]
    rw [← this, DRepL.cell g2]
    exact (hone _ (List.getElem_mem hil)).1
  obtain ⟨A', f1, f2, _, f4⟩ := fill_all (parts.toList.map fun q => (q.1, a.eval q.2)) 0 ((Array.range (len * te.size)).map ((if len * te.size = 0 then #[] else te.zero.cells)[· % (if len * te.size = 0 then #[] else te.zero.cells).size]!)) (by rw [hvl, hlen, List.range_eq_range']) hcells (by rw [hlen]; simp)
  have hpm : (parts.map fun (i, x) => (i, a.eval x)).toList = parts.toList.map fun q => (q.1, a.eval q.2) := by simp
  refine wp_value (c := .slice (some ⟨w.heap.size, 0, none⟩) len len) (w' := w.alloc (.cells A' el)) ?_ ?_
  · simp only [execOp, hop]
    refine run_v ?_
    have hnl : ¬ (len * te.size > 2 ^ 24) := by omega
    by_cases h0 : len * te.size = 0
    · simp only [h0, if_true] at f1
      have hnl0 : ¬ (0 > 2 ^ 24) := by omega
      simp only [Instr.buildSlice, Sem.run_bind, run_underlying hun, Result.andThen_ok, hsz, hnl, if_false, h0, if_true, hnl0, hpm, Sem.run_pure, f1]
      simp [newRow]
    · simp only [h0, if_false] at f1
      simp only [Instr.buildSlice, Sem.run_bind, run_underlying hun, Result.andThen_ok, hsz, hnl, if_false, h0, hz, hpm, f1, Sem.run_pure]
      simp [newRow]
  · have h1 := h.give (idsL (parts.toList.map fun q => st.evs q.2))
    have hb := h1.row (w' := w.alloc (.cells A' el)) (id := nid 0) (ver := 0) (b := w.heap.size) (n := len) (e := el) (s := te.size) (room := some len) (els := ds) (cs := A'.toList) rfl rfl rfl (by simp) (fun b hb _ => heap_alloc_old w _ b hb)
      (fun v hv => absurd hv (hn 0 v)) (by simp) (.inl (Nat.le_refl _)) (heap_new w _) (by omega) hlm (fun m hm => by cases hm; rfl) (by rw [Array.length_toList, f2]; simp) ?_
    · refine Rst.after (by simpa [updAll] using hb) hd ?_ ?_ (fun i v h => ⟨.inl h, phi_old (hn 0 0) i v h⟩) (also_new (.inr ⟨0, by omega, rfl⟩))
      · simp only [PVal.und]; exact .inr ⟨rfl, rfl⟩
      · simp only [PRep]; exact .inr ⟨_, _, some ⟨w.heap.size, 0, none⟩, phi_same .., by omega, by simp, .inr (by simp)⟩
    · intro i x hx
      obtain ⟨c, g1, g2⟩ := rd.get hx
      have hqi : (parts.toList.map fun q => (q.1, a.eval q.2))[i]? = some ((parts.toList.map fun q => (q.1, a.eval q.2))[i]'(by rw [hlen, ← hdl]; exact (List.getElem?_eq_some_iff.1 hx).1)) := List.getElem?_eq_getElem _
      have hc : c = ((parts.toList.map fun q => (q.1, a.eval q.2))[i]'(by rw [hlen, ← hdl]; exact (List.getElem?_eq_some_iff.1 hx).1)).2 := by
        rw [List.getElem?_map, hqi] at g1
        simpa using g1.symm
      refine ⟨c, g2, by rw [DRepL.cell g2]; exact (hone x (List.mem_of_getElem? hx)).1, fun j v hj => ?_⟩
      have := f4 i _ hqi j v (by rw [← hc]; exact hj)
      rw [Nat.zero_add] at this
      simpa using this
include hk in
theorem makeSlice_run (h : Rst E S φ st a w) (hd : ∀ d, o.dst = some d → d < a.tmps.size) (hn : ∀ j v, ¬ S (nid j) v) {t el : Nat} {te : TI} {l c : Operand} {kl kc : IntKind} {l' c' : Int} (hop : o.op = .makeSlice t l c)
    (hkd : kindOf T t = some (.slice el)) (ht : T el = some te) (hl : asInt (st.evs l) = some (kl, l')) (hc : asInt (st.evs c) = some (kc, c'))
    (h0 : 0 ≤ l') (hlc : l' ≤ c') (hby : (te.bytes : Int) * c' ≤ 281474976710656) (hmx : c' ≤ maxLen) (hg : st.gds [l, c])
    (he : e = ⟨.own (nid 0) 0 te.size 0 l'.toNat, [], [(nid 0, .arr el te.size 0 (some c'.toNat) (List.replicate l'.toNat (ofV te.zero)))]⟩) : o.wp P a w (After E S φ st a.tmps.size nid o.dst e) Q := by
  subst he
  have hun : P.underlying t = some (.slice el) := desc_of hk.tb hkd
  obtain ⟨inf, hi, hs, hb, hz⟩ := (hk.tb el te ht).info
  have hzs := (hk.tb el te ht).zsize
  have gl := asInt_rep hl (h.evs l (gds_mem hg l (by simp))).2
  have gc := asInt_rep hc (h.evs c (gds_mem hg c (by simp))).2
  have hr := run_make (P := P) w t el inf te.zero hun hi hz kl kc l' c' h0 hlc (by rw [hb]; exact hby) (by simp only [maxLen] at hmx; omega)
  rw [hs] at hr
  refine wp_value (c := .slice (some ⟨w.heap.size, 0, none⟩) l'.toNat c'.toNat) (w' := w.alloc (.cells (madeCells te.zero.cells (c'.toNat * te.size)) el)) ?_ ?_
  · simp only [execOp, hop, gl, gc]
    exact run_v hr
  · have hb := h.row (w' := w.alloc (.cells (madeCells te.zero.cells (c'.toNat * te.size)) el)) (id := nid 0) (ver := 0) (b := w.heap.size) (n := c'.toNat) (e := el) (s := te.size) (room := some c'.toNat) (els := List.replicate l'.toNat (ofV te.zero)) (cs := (madeCells te.zero.cells (c'.toNat * te.size)).toList)
      rfl rfl rfl (by simp) (fun b hb _ => heap_alloc_old w _ b hb) (fun v hv => absurd hv (hn 0 v)) (by simp) (.inl (Nat.le_refl _)) (heap_new w _) (by simp; omega) (by simp only [maxLen] at *; omega) (fun m hm => by cases hm; rfl) (by rw [Array.length_toList, size_madeCells]) ?_
    · refine Rst.after (by simpa [updAll, delAll] using hb) hd ?_ ?_ (fun i v h => ⟨.inl h, phi_old (hn 0 0) i v h⟩) (also_new (.inr ⟨0, by omega, rfl⟩))
      · simp only [PVal.und]; exact .inr ⟨rfl, rfl⟩
      · simp only [PRep]; exact .inr ⟨_, _, some ⟨w.heap.size, 0, none⟩, phi_same .., by omega, by simp, .inr (by simp)⟩
    · intro i x hx
      obtain ⟨hil, rfl⟩ := by simpa using List.getElem?_eq_some_iff.1 hx
      refine ⟨te.zero, DRep.ofV _, hzs, fun j v hj => ?_⟩
      have hjl : j < te.size := by have := (List.getElem?_eq_some_iff.1 hj).1; simpa [hzs] using this
      have hlt : i * te.size + j < c'.toNat * te.size := by
        have : (i + 1) * te.size ≤ c'.toNat * te.size := Nat.mul_le_mul_right _ (by omega)
        rw [Nat.add_mul] at this; omega
      simp only [madeCells, Array.toList_map, List.getElem?_map, Array.toList_range, List.getElem?_range hlt, Option.map_some]
      have hm : (i * te.size + j) % te.zero.cells.size = j := by rw [hzs, Nat.add_comm, Nat.add_mul_mod_self_right, Nat.mod_eq_of_lt hjl]
      rw [hm]
      have : te.zero.cells[j]? = some v := by simpa using hj
      rw [getElem!_def, this]
theorem rep_zeros {w : World} {O : Nat → Prop} {φ : Nat → Nat → Option (Nat × Nat)} (z : Value) : ∀ n, PRepL w O φ (List.replicate n (.d (ofV z))) (List.replicate n z)
  | 0 => by simp only [List.replicate_zero, PRepL]
  | n + 1 => by simp only [List.replicate_succ, PRepL, PRep]; exact ⟨_, _, rfl, DRep.ofV _, rep_zeros z n⟩
theorem und_zeros {S : Nat → Nat → Prop} (z : Value) : ∀ n, undL S (List.replicate n (.d (ofV z)))
  | 0 => by simp only [List.replicate_zero, undL]
  | n + 1 => by simp only [List.replicate_succ, undL, PVal.und]; exact ⟨trivial, und_zeros z n⟩
theorem cells_one {z : Value} (h : (ofV z).one = true) : z.cells = #[z] := by
  cases z <;> first
    | rfl
    | (simp [ofV, D.one] at h; done)
theorem made_one {z : Value} (h : (ofV z).one = true) (n : Nat) : madeCells z.cells n = (List.replicate n z).toArray := by
  rw [cells_one h]
  apply Array.ext
  · simp [madeCells]
  · intro i h1 h2
    have : i % 1 = 0 := Nat.mod_one i
    simp [madeCells, this]
include hk in
theorem makeBox_run (h : Rst E S φ st a w) (hd : ∀ d, o.dst = some d → d < a.tmps.size) (hn : ∀ j v, ¬ S (nid j) v) {t el : Nat} {te : TI} {l c : Operand} {kl kc : IntKind} {l' c' : Int} (hop : o.op = .makeSlice t l c)
    (hkd : kindOf T t = some (.slice el)) (ht : T el = some te) (hl : asInt (st.evs l) = some (kl, l')) (hc : asInt (st.evs c) = some (kc, c'))
    (h0 : 0 ≤ l') (hby : (te.bytes : Int) * c' ≤ 281474976710656) (hmx : c' ≤ maxLen) (hg : st.gds [l, c]) (hs1 : te.size = 1) (hz1 : (ofV te.zero).one = true) (hlc : l' = c')
    (he : e = ⟨.own (nid 0) 0 1 0 l'.toNat, [], [(nid 0, .box (List.replicate l'.toNat (.d (ofV te.zero))))]⟩) : o.wp P a w (After E S φ st a.tmps.size nid o.dst e) Q := by
  subst he; subst hlc
  have hun : P.underlying t = some (.slice el) := desc_of hk.tb hkd
  obtain ⟨inf, hi, hs, hb, hz⟩ := (hk.tb el te ht).info
  have gl := asInt_rep hl (h.evs l (gds_mem hg l (by simp))).2
  have gc := asInt_rep hc (h.evs c (gds_mem hg c (by simp))).2
  have hr := run_make (P := P) w t el inf te.zero hun hi hz kl kc l' l' h0 (Int.le_refl _) (by rw [hb]; exact hby) (by simp only [maxLen] at hmx; omega)
  rw [hs, hs1, Nat.mul_one, made_one hz1] at hr
  refine wp_value (c := .slice (some ⟨w.heap.size, 0, none⟩) l'.toNat l'.toNat) (w' := w.alloc (.cells (List.replicate l'.toNat te.zero).toArray el)) ?_ ?_
  · simp only [execOp, hop, gl, gc]
    exact run_v hr
  · have hb := h.boxN l'.toNat (hn 0) el (und_zeros te.zero l'.toNat) (rep_zeros (φ := φ) te.zero l'.toNat)
    refine Rst.after (by simpa [updAll, delAll] using hb) hd ?_ ?_ (fun i v h => ⟨.inl h, phi_old (hn 0 0) i v h⟩) (also_new (.inr ⟨0, by omega, rfl⟩))
    · simp only [PVal.und]; exact .inr ⟨rfl, rfl⟩
    · simp only [PRep]; exact .inr ⟨_, _, some ⟨w.heap.size, 0, none⟩, phi_same .., by omega, by simp, .inr (by simp)⟩
theorem setRow_mods (w : World) (b : Nat) (cs : Array Value) : (w.setRow b cs).os = w.os ∧ (w.setRow b cs).tape = w.tape ∧ (w.setRow b cs).output = w.output ∧ (w.setRow b cs).heap.size = w.heap.size := by
  simp [World.setRow]
include hk in
theorem storeVar_run {t : Nat} {ti : TI} (ht : T t = some ti) {b k : Nat} {cs : List Value} {ty : Nat} {v : Value} (hb : w.heap[b]? = some (.cells cs.toArray ty (0, 0))) (hs : v.cells.size = ti.size) (hl : k + ti.size ≤ cs.length) (h1 : ∀ u ∈ v.cells.toList, u.oneCell' = true) :
    (Instr.storeAt t (.pointer (some ⟨b, k, none⟩)) v).run P w = .ok () (w.setRow b (splice cs k v.cells.toList).toArray) := by
  have hsz := run_sizeOf_T (P := P) hk.tb ht w
  have hst := run_storeCells_at P b k ty v.cells.toList 0 cs.toArray w hb (by simp; omega) h1
  simp only [Nat.add_zero, List.toList_toArray] at hst
  simp only [Instr.storeAt, Instr.sureAddr, Sem.run_bind, Sem.run_pure, Result.andThen_ok, storeVar, hsz, hs]
  simp only [ne_eq, not_true_eq_false, if_false]
  exact hst
include hk in
theorem storeBox_run (h : Rst E S φ st a w) (hd : ∀ d, o.dst = some d → d < a.tmps.size) {t : Nat} {ti : TI} {ad x : Operand} {id k : Nat} {cells : List PVal} (hop : o.op = .store t ad x) (ht : T t = some ti) (ga : ∃ b n, φ id 0 = some (b, n) ∧ a.eval ad = .pointer (some ⟨b, k, none⟩)) (hf : find id st.heap = some (.box cells))
    (hl : (st.evs x).cells.length = ti.size) (hkl : k + ti.size ≤ cells.length) (hone : (st.evs x).cells.all PVal.one = true) (hg : st.gds [ad, x])
    (he : e = ⟨.dead, [], [(id, .box (splice cells k (st.evs x).cells))]⟩) : o.wp P a w (After E S φ st a.tmps.size nid o.dst e) Q := by
  subst he
  obtain ⟨ux, rx⟩ := h.evs x (gds_mem hg x (by simp))
  obtain ⟨b, n, hb, hav⟩ := ga
  obtain ⟨h1, h1', h2, h3, h4⟩ := h.objs id _ hf
  simp only [ORep, PObj.und] at h4 h2
  obtain ⟨b', n', cs, ty, g1, g2, g3⟩ := h4
  rw [hb] at g1
  simp only [Option.some.injEq, Prod.mk.injEq] at g1
  obtain ⟨rfl, rfl⟩ := g1
  have hne : st.evs x ≠ .dead := by intro e; rw [e] at hone; simp [PVal.cells, PVal.one] at hone
  have hcells := PRep.cells (cells_told hone hne) hne rx
  have hvl : (a.eval x).cells.size = ti.size := by have := hcells.length; rw [hl] at this; simpa using this
  have hcl := g3.length
  refine wp_skipped (w' := w.setRow b (splice cs k (a.eval x).cells.toList).toArray) ?_ ?_
  · simp only [execOp, hop, hav]
    rw [Sem.run_bind, storeVar_run hk ht g2 hvl (by omega) (hcells.ones hone)]
    rfl
  · obtain ⟨m1, m2, m3, m4⟩ := setRow_mods w b (splice cs k (a.eval x).cells.toList).toArray
    have hbk : blk φ id (.box cells) = some b := by simp [blk, hb]
    have hs := h.set (w' := w.setRow b (splice cs k (a.eval x).cells.toList).toArray) (id := id) (o' := .box (splice cells k (st.evs x).cells)) (S' := S) (φ' := φ) m1 m2 m3 (by rw [m4]; exact Nat.le_refl _)
      (fun c hc hno => setRow_other w b c _ fun e => hno _ hf (e ▸ hbk)) (fun _ _ h => h) (fun _ _ _ => rfl) h1 h1' (fun _ _ _ h => h) (by simp only [PObj.und]; exact und_splice h2 (und_cells ux) k)
      (fun c hc => ⟨by rw [m4]; exact (h3 c hc).1, .inr ⟨_, hf, hc⟩⟩) ?_
    · refine Rst.after (c := undef) (by simpa [updAll, delAll] using hs) hd ?_ ?_ (fun _ _ h => ⟨h, rfl⟩) (fun i v hv => .inl ⟨v, hv⟩)
      · simp only [PVal.und]
      · simp only [PRep]
    · simp only [ORep]
      refine ⟨b, n, _, ty, hb, setRow_heap w b cs.toArray _ ty (0, 0) g2, ?_⟩
      have hO := held_set (o' := .box (splice cells k (st.evs x).cells)) (φ' := φ) h (fun _ _ _ => rfl) (fun c hc => .inr ⟨_, hf, hc⟩)
      have hkp : Keeps (Held E φ st.heap) w (w.setRow b (splice cs k (a.eval x).cells.toList).toArray) := ⟨by rw [m4]; exact Nat.le_refl _, fun c hlt hc => setRow_other w b c _ fun e => hc (.inr ⟨id, _, hf, e ▸ hbk⟩)⟩
      exact PRepL.keep (n := S) hkp hO (fun _ _ _ => rfl) _ _ (und_splice h2 (und_cells ux) k) (splice_rep g3 hcells k)
include hk in
theorem storeRef_run (h : Rst E S φ st a w) (hd : ∀ d, o.dst = some d → d < a.tmps.size) {t : Nat} {ti : TI} {ad x : Operand} {id k : Nat} {cells : List PVal} (hop : o.op = .store t ad x) (ht : T t = some ti) (ha : st.evs ad = .ref id k) (hf : find id st.heap = some (.box cells))
    (hl : (st.evs x).cells.length = ti.size) (hkl : k + ti.size ≤ cells.length) (hone : (st.evs x).cells.all PVal.one = true) (hg : st.gds [ad, x])
    (he : e = ⟨.dead, [], [(id, .box (splice cells k (st.evs x).cells))]⟩) : o.wp P a w (After E S φ st a.tmps.size nid o.dst e) Q := by
  have ga := (h.evs ad (gds_mem hg ad (by simp))).2
  rw [ha] at ga
  simp only [PRep] at ga
  exact storeBox_run hk h hd hop ht ga hf hl hkl hone hg he
include hk in
theorem storeCell_run (h : Rst E S φ st a w) (hd : ∀ d, o.dst = some d → d < a.tmps.size) {t : Nat} {ti : TI} {ad x : Operand} {id s i k : Nat} {cells : List PVal} (hop : o.op = .store t ad x) (ht : T t = some ti) (ha : st.evs ad = .refE id 0 s i k) (hf : find id st.heap = some (.box cells))
    (hl : (st.evs x).cells.length = ti.size) (hkl : i * s + k + ti.size ≤ cells.length) (hone : (st.evs x).cells.all PVal.one = true) (hg : st.gds [ad, x])
    (he : e = ⟨.dead, [], [(id, .box (splice cells (i * s + k) (st.evs x).cells))]⟩) : o.wp P a w (After E S φ st a.tmps.size nid o.dst e) Q := by
  have ga := (h.evs ad (gds_mem hg ad (by simp))).2
  rw [ha] at ga
  simp only [PRep] at ga
  exact storeBox_run hk h hd hop ht ga hf hl hkl hone hg he
theorem mapFind_at {kk : Option (List CK)} {x : D} : ∀ {es : List (D × D)} {i : Nat}, mapFind kk x es = some (some i) → ∃ e, es[i]? = some e ∧ keyEq kk x e.1 = some true
  | [], i, h => by simp [mapFind] at h
  | e :: es, i, h => by
    simp only [mapFind] at h
    split at h
    · rename_i hb; cases h; exact ⟨e, rfl, hb⟩
    · split at h
      · rename_i j hj
        cases h
        obtain ⟨e', h1, h2⟩ := mapFind_at hj
        exact ⟨e', by simpa using h1, h2⟩
      · cases h
      · cases h
    · cases h
theorem same_cells : ∀ {ks : List CK} {us vs : List Value}, ks.all CK.plain = true → cellsEq ks (us.map .v) (vs.map .v) = some true → ∀ n, us.length = vs.length ∧ ((vs.zip us).all fun (x, y) => Instr.sameBits n x y) = true
  | [], [], [], _, _, _ => ⟨rfl, rfl⟩
  | [], u :: us, vs, _, h, _ => by simp [cellsEq] at h
  | [], [], v :: vs, _, h, _ => by simp [cellsEq] at h
  | k :: ks, [], vs, _, h, _ => by simp [cellsEq] at h
  | k :: ks, u :: us, [], _, h, _ => by simp [cellsEq] at h
  | k :: ks, u :: us, v :: vs, hp, h, n => by
    simp only [List.all_cons, Bool.and_eq_true] at hp
    have key : cellEq k (.v u) (.v v) = some true ∧ (cellsEq ks (us.map .v) (vs.map .v) = some true) := by
      simp only [List.map_cons] at h
      unfold cellsEq at h
      split at h
      · rename_i h1 h2 h3; cases h1
      · rename_i h1 h2 h3
        simp only [List.cons.injEq] at h1 h2 h3
        obtain ⟨rfl, rfl⟩ := h1
        obtain ⟨rfl, h2⟩ := h2
        obtain ⟨rfl, h3⟩ := h3
        rw [h2, h3]
        exact ⟨h, rfl⟩
      · rename_i h1 h2 h3
        simp only [List.cons.injEq] at h1 h2 h3
        obtain ⟨rfl, rfl⟩ := h1
        obtain ⟨rfl, rfl⟩ := h2
        obtain ⟨rfl, rfl⟩ := h3
        split at h
        · rename_i x y hx hy
          simp only [Option.some.injEq, Bool.and_eq_true] at h
          obtain ⟨rfl, rfl⟩ := h
          exact ⟨hx, hy⟩
        · cases h
      · cases h
    obtain ⟨h1, h2⟩ := key
    obtain ⟨g1, g2⟩ := same_cells hp.2 h2 n
    refine ⟨by simp [g1], ?_⟩
    simp only [List.zip_cons_cons, List.all_cons, g2, Bool.and_true]
    cases k with
    | str => simp [CK.plain] at hp
    | int =>
      cases u <;> (try (simp [cellEq] at h1; done))
      cases v <;> (try (simp [cellEq] at h1; done))
      simp only [cellEq] at h1
      split at h1
      · rename_i e; subst e
        simp only [Option.some.injEq, beq_iff_eq] at h1; subst h1
        unfold Instr.sameBits; simp
      · cases h1
    | bool =>
      cases u <;> (try (simp [cellEq] at h1; done))
      cases v <;> (try (simp [cellEq] at h1; done))
      simp only [cellEq, Option.some.injEq, beq_iff_eq] at h1; subst h1
      unfold Instr.sameBits; simp
theorem same_key {T : Nat → Option TI} {eqt : Nat → Option (List CK)} {w : World} {O : Nat → Prop} {kt : Nat} {kk : Option (List CK)} (hc : keyCK T eqt kt = some kk) {x y : D} {cx cy : Value} (h : keyEq kk x y = some true) (hx : DRep w O x cx) (hy : DRep w O y cy) : Instr.sameBits 10000 cy cx = true := by
  rcases keyEq_vals h hx hy with ⟨_, k, a, b, rfl, rfl, e⟩ | ⟨ks, us, vs, rfl, rfl, rfl, e⟩
  · have : a = b := by simpa using e.symm
    subst this
    unfold Instr.sameBits; simp
  · unfold keyCK at hc
    split at hc
    · cases hc
    · split at hc
      · rename_i ks' he
        split at hc
        · rename_i hp
          cases hc
          obtain ⟨h1, h2⟩ := same_cells hp e 9999
          unfold Instr.sameBits
          simp [h1, h2]
        · cases hc
      · cases hc
    · cases hc
theorem DRepL.set {w : World} {O : Nat → Prop} : ∀ {ds : List D} {cs : List Value} {i : Nat} {d : D} {c : Value}, DRepL w O ds cs → DRep w O d c → DRepL w O (ds.set i d) (cs.set i c)
  | [], cs, i, d, c, h, _ => by simp only [DRepL] at h; subst h; simp [DRepL]
  | e :: ds, cs, i, d, c, h, hd => by
    simp only [DRepL] at h
    obtain ⟨c0, cs', rfl, h1, h2⟩ := h
    cases i with
    | zero => simp only [List.set_cons_zero, DRepL]; exact ⟨_, _, rfl, hd, h2⟩
    | succ i => simp only [List.set_cons_succ, DRepL]; exact ⟨_, _, rfl, h1, DRepL.set h2 hd⟩
theorem modify_map {β : Type} {arr : Array MapEntry} {i : Nat} {f : MapEntry → MapEntry} {g : MapEntry → β} {b : β} (hf : ∀ e, g (f e) = b) : (arr.modify i f).toList.map g = (arr.toList.map g).set i b := by
  apply List.ext_getElem?
  intro j
  rw [List.getElem?_map, Array.getElem?_toList, Array.getElem?_modify, List.getElem?_set, List.getElem?_map, Array.getElem?_toList]
  by_cases h : i = j
  · subst h
    rw [if_pos rfl, if_pos rfl]
    cases hj : arr[i]? with
    | none =>
      have : ¬ i < arr.size := by simpa using hj
      simp [this]
    | some e =>
      have : i < arr.size := (Array.getElem?_eq_some_iff.1 hj).1
      simp [this, hf]
  · rw [if_neg h, if_neg h]
include hk in
theorem makeMap_run (h : Rst E S φ st a w) (hd : ∀ d, o.dst = some d → d < a.tmps.size) (hn : ∀ j v, ¬ S (nid j) v) {t : Nat} (hop : o.op = .makeMap t none)
    (he : e = ⟨.mp (nid 0), [], [(nid 0, .map [])]⟩) : o.wp P a w (After E S φ st a.tmps.size nid o.dst e) Q := by
  subst he
  refine wp_value (c := .map (some w.heap.size)) (w' := w.alloc (.map #[] 0)) ?_ ?_
  · simp only [execOp, hop, Option.map_none]
    refine run_v ?_
    simp [Instr.makeMap]
  · have hb := h.newMap (hn 0)
    refine Rst.after (by simpa [updAll, delAll] using hb) hd ?_ ?_ (fun i v h => ⟨.inl h, phi_old (hn 0 0) i v h⟩) (also_new (.inr ⟨0, by omega, rfl⟩))
    · simp only [PVal.und]; exact .inr ⟨rfl, rfl⟩
    · simp only [PRep]; exact ⟨_, _, phi_same .., rfl⟩
include hk in
theorem mapUpdate_run (h : Rst E S φ st a w) (hd : ∀ d, o.dst = some d → d < a.tmps.size) {t kt el : Nat} {m k x : Operand} {id : Nat} {es es' : List (D × D)} {kk : Option (List CK)} {kd xd : D} (hop : o.op = .mapUpdate t m k x ∨ o.op = .insert t m k x) (hkd : kindOf T t = some (.map kt el)) (hm : st.evs m = .mp id)
    (hf : find id st.heap = some (.map es)) (hkk : keyCK T eqt kt = some kk) (hkdD : (st.evs k).toD st.heap = some kd) (hxd : (st.evs x).toD st.heap = some xd) (hs : mapSet kk kd xd es = some es') (hok : (keyEq kk kd kd).isSome = true) (hki : (st.evs k).ids = []) (hid : (st.evs x).ids.contains id = false) (hg : st.gds [m, k, x])
    (he : e = ⟨.dead, (st.evs x).ids, [(id, .map es')]⟩) : o.wp P a w (After E S φ st a.tmps.size nid o.dst e) Q := by
  subst he
  have hu : P.underlying t = some (.map kt el) := desc_of hk.tb hkd
  have gm := (h.evs m (gds_mem hg m (by simp))).2
  have rk := (h.evs k (gds_mem hg k (by simp))).2
  have rx := (h.evs x (gds_mem hg x (by simp))).2
  have rd := h.giveD (ids := (st.evs x).ids) (fun i hi => hi) hxd rx
  have rkd := h.giveD (ids := (st.evs x).ids) (by rw [hki]; intro i hi; cases hi) hkdD rk
  have hg1 := h.give (st.evs x).ids
  have hf1 : find id (delAll (st.evs x).ids st.heap) = some (.map es) := by
    rw [find_delAll, if_neg (by simpa using hid)]; exact hf
  rw [hm] at gm
  simp only [PRep] at gm
  obtain ⟨b, n, hb, hmv⟩ := gm
  obtain ⟨h1, h1', h2, h3, h4⟩ := hg1.objs id _ hf1
  simp only [ORep] at h4
  obtain ⟨b', n', arr, clock, g1, g2, g3, g4, g5⟩ := h4
  rw [hb] at g1
  simp only [Option.some.injEq, Prod.mk.injEq] at g1
  obtain ⟨rfl, rfl⟩ := g1
  have hbk : blk φ id (.map es) = some b := by simp [blk, hb]
  obtain ⟨k1, k2⟩ := key_run hk hkk hok rkd
  have main : ∃ (arr' : Array MapEntry) (clock' : Nat), (Instr.mapUpdate t (.map (some b)) (a.eval k) (a.eval x)).run P w = .ok () { w with heap := w.heap.setIfInBounds b (.map arr' clock') } ∧ DRepL w (Held E φ (delAll (st.evs x).ids st.heap)) (es'.map (·.1)) (arr'.toList.map (·.key)) ∧ DRepL w (Held E φ (delAll (st.evs x).ids st.heap)) (es'.map (·.2)) (arr'.toList.map (·.val)) ∧ ∀ x ∈ arr'.toList, x.born < clock' := by
    unfold mapSet at hs
    split at hs
    · rename_i i hfi
      cases hs
      obtain ⟨e0, q1, q2⟩ := mapFind_at hfi
      obtain ⟨ck, q3, q4⟩ := g3.get (i := i) (d := e0.1) (by simp [q1])
      rw [List.getElem?_map] at q3
      obtain ⟨me, q5, rfl⟩ := Option.map_eq_some_iff.1 q3
      have hsb := same_key hkk q2 rkd q4
      have hfk := k2 es arr.toList _ g3 hfi
      have hai : arr[i]? = some me := by simpa using q5
      refine ⟨arr.modify i fun e => { e with key := a.eval k, val := a.eval x }, clock, ?_, ?_, ?_, ?_⟩
      · simp only [Instr.mapUpdate, Sem.run_bind, run_underlying hu, Result.andThen_ok, run_getObj_map w _ arr clock g2, k1, hfk, entAt, Option.map_some, Instr.keyThatStays, hai, Option.getD_some, hsb, if_true, Sem.run_pure, MapKept.run_setObj_map _ g2]
      · rw [modify_map (b := a.eval k) (fun _ => rfl), List.map_set]
        exact g3.set rkd
      · rw [modify_map (b := a.eval x) (fun _ => rfl), List.map_set]
        exact g4.set rd
      · intro x' hx'
        obtain ⟨j, hj⟩ := List.mem_iff_getElem?.1 hx'
        rw [Array.getElem?_toList, Array.getElem?_modify] at hj
        split at hj
        · obtain ⟨y, hy, rfl⟩ := Option.map_eq_some_iff.1 hj
          exact g5 y (List.mem_iff_getElem?.2 ⟨j, by simpa using hy⟩)
        · exact g5 x' (List.mem_iff_getElem?.2 ⟨j, by simpa using hj⟩)
    · rename_i hfi
      cases hs
      have hfk := k2 es arr.toList _ g3 hfi
      refine ⟨arr.push { key := a.eval k, val := a.eval x, born := clock }, clock + 1, ?_, ?_, ?_, ?_⟩
      · simp only [Instr.mapUpdate, Sem.run_bind, run_underlying hu, Result.andThen_ok, run_getObj_map w _ arr clock g2, k1, hfk, entAt, Option.map_none, MapKept.run_setObj_map _ g2]
      · rw [Array.toList_push, List.map_append, List.map_append]
        exact g3.append (by simp only [List.map_cons, List.map_nil, DRepL]; exact ⟨_, _, rfl, rkd, rfl⟩)
      · rw [Array.toList_push, List.map_append, List.map_append]
        exact g4.append (by simp only [List.map_cons, List.map_nil, DRepL]; exact ⟨_, _, rfl, rd, rfl⟩)
      · intro x' hx'
        rw [Array.toList_push] at hx'
        rcases List.mem_append.1 hx' with hx' | hx'
        · exact Nat.lt_succ_of_lt (g5 x' hx')
        · obtain rfl := by simpa using hx'
          exact Nat.lt_succ_self _
    · cases hs
  obtain ⟨arr', clock', r0, r1, r2, r3⟩ := main
  refine wp_skipped (w' := { w with heap := w.heap.setIfInBounds b (.map arr' clock') }) ?_ ?_
  · rcases hop with hop | hop
    all_goals
      simp only [execOp, hop, hmv]
      rw [Sem.run_bind, r0]
      rfl
  · have hset := hg1.set (w' := { w with heap := w.heap.setIfInBounds b (.map arr' clock') }) (id := id) (o' := .map es') (S' := S) (φ' := φ) rfl rfl rfl (by simp)
      (fun c hc hno => (MapKept.heap_set g2).2 c fun e => hno _ hf1 (e ▸ hbk)) (fun _ _ h => h) (fun _ _ _ => rfl) h1 h1' (fun _ _ _ h => h) (by simp only [PObj.und])
      (fun c hc => ⟨by simpa using (h3 c hc).1, .inr ⟨_, hf1, hc⟩⟩) ?_
    · refine Rst.after (c := undef) (by simpa [updAll] using hset) hd ?_ ?_ (fun _ _ h => ⟨h, rfl⟩) (fun i v hv => .inl ⟨v, hv⟩)
      · simp only [PVal.und]
      · simp only [PRep]
    · have hO := held_set (o' := .map es') (φ' := φ) hg1 (fun _ _ _ => rfl) (fun c hc => .inr ⟨_, hf1, hc⟩)
      have hkp : Keeps (Held E φ (delAll (st.evs x).ids st.heap)) w { w with heap := w.heap.setIfInBounds b (.map arr' clock') } := ⟨by simp, fun c hlt hc => (MapKept.heap_set g2).2 c fun e => hc (.inr ⟨id, _, hf1, e ▸ hbk⟩)⟩
      simp only [ORep]
      exact ⟨b, n, arr', clock', hb, (MapKept.heap_set g2).1, DRepL.keep hkp hO _ _ r1, DRepL.keep hkp hO _ _ r2, r3⟩
theorem DRepL.splice {O : Nat → Prop} {ps qs : List D} {cs xs : List Value} (h : DRepL w O ps cs) (h' : DRepL w O qs xs) (o : Nat) : DRepL w O (splice ps o qs) (splice cs o xs) := by
  unfold Pv.splice
  rw [← h'.length]
  exact ((h.take o).append h').append (h.drop _)
theorem withCells_rep {O : Nat → Prop} {el : D} {c : Value} {ds : List D} {vs : List Value} {k s : Nat} (h : DRep w O el c) (hs : c.cells.size = s) (hd : DRepL w O ds vs) (hk : k + ds.length ≤ s) (h1 : ds.all D.one = true) :
    ∃ c', DRep w O (el.withCells (splice el.cells k ds)) c' ∧ c'.cells.toList = splice c.cells.toList k vs := by
  have hcs := h.cells
  have agg : (∃ es, el = .agg es) ∨ (∃ es, el = .v (.agg es)) ∨ (el.cells = [el] ∧ (∀ l, el.withCells l = l.headD el) ∧ c.cells = #[c]) := by
    cases el with
    | agg es => exact .inl ⟨es, rfl⟩
    | v x =>
      simp only [DRep] at h; subst h
      cases c <;> first
        | exact .inr (.inl ⟨_, rfl⟩)
        | exact .inr (.inr ⟨rfl, fun _ => rfl, rfl⟩)
    | tup es => simp only [DRep] at h; obtain ⟨_, rfl, _⟩ := h; exact .inr (.inr ⟨rfl, fun _ => rfl, rfl⟩)
    | slc s es => simp only [DRep] at h; obtain ⟨_, _, rfl, _⟩ := h; exact .inr (.inr ⟨rfl, fun _ => rfl, rfl⟩)
    | ifc t p => simp only [DRep] at h; obtain ⟨_, rfl, _⟩ := h; exact .inr (.inr ⟨rfl, fun _ => rfl, rfl⟩)
    | fn f x y => simp only [DRep] at h; obtain ⟨_, _, rfl, _⟩ := h; exact .inr (.inr ⟨rfl, fun _ => rfl, rfl⟩)
    | ptr ds => simp only [DRep] at h; obtain ⟨_, _, _, rfl, _⟩ := h; exact .inr (.inr ⟨rfl, fun _ => rfl, rfl⟩)
  rcases agg with ⟨es, rfl⟩ | ⟨es, rfl⟩ | ⟨e1, e2, e3⟩
  · exact ⟨.agg (splice c.cells.toList k vs).toArray, by simp only [D.withCells, DRep]; exact ⟨_, rfl, DRepL.splice hcs hd k⟩, by simp [Value.cells]⟩
  · exact ⟨.agg (splice c.cells.toList k vs).toArray, by simp only [D.withCells, DRep]; exact ⟨_, rfl, DRepL.splice hcs hd k⟩, by simp [Value.cells]⟩
  · rw [e1, e2, e3]
    rw [e3] at hs
    simp at hs
    cases ds with
    | nil =>
      simp only [DRepL] at hd; subst hd
      refine ⟨c, by simpa [splice] using h, by rw [e3]; simp [splice]⟩
    | cons x ds =>
      cases ds with
      | cons y ds => simp at hk; omega
      | nil =>
        simp at hk
        have hk0 : k = 0 := by omega
        subst hk0
        simp only [DRepL] at hd
        obtain ⟨u, us, rfl, g1, rfl⟩ := hd
        have hu : u.oneCell' = true := DRepL.ones (ds := [x]) (cs := [u]) (by simp only [DRepL]; exact ⟨u, [], rfl, g1, rfl⟩) h1 u (by simp)
        refine ⟨u, by simpa [splice] using g1, ?_⟩
        cases u <;> first
          | (simp [Value.oneCell'] at hu; done)
          | simp [splice, Value.cells]
include hk in
theorem storeElem_run (h : Rst E S φ st a w) (hd : ∀ d, o.dst = some d → d < a.tmps.size) {t : Nat} {ti : TI} {ad x : Operand} {id ver s i k : Nat} {ob ob' : PObj} {d : D} (hop : o.op = .store t ad x) (ht : T t = some ti) (ha : st.evs ad = .refE id ver s i k) (hf : find id st.heap = some ob)
    (hxd : (st.evs x).toD st.heap = some d) (hs : storeE s ver k d ob i = some ob') (hl : d.cells.length = ti.size) (hone : d.cells.all D.one = true) (hid : (st.evs x).ids.contains id = false) (hg : st.gds [ad, x])
    (he : e = ⟨.dead, (st.evs x).ids, [(id, ob')]⟩) : o.wp P a w (After E S φ st a.tmps.size nid o.dst e) Q := by
  subst he
  have ga := (h.evs ad (gds_mem hg ad (by simp))).2
  obtain ⟨ux, rx⟩ := h.evs x (gds_mem hg x (by simp))
  have rd := h.giveD (ids := (st.evs x).ids) (fun i hi => hi) hxd rx
  have hg1 := h.give (st.evs x).ids
  have hf1 : find id (delAll (st.evs x).ids st.heap) = some ob := by
    rw [find_delAll, if_neg (by simpa using hid)]; exact hf
  rw [ha] at ga
  simp only [PRep] at ga
  obtain ⟨b, n, hb, hav⟩ := ga
  cases ob with
  | box ps => simp [storeE] at hs
  | map es => simp [storeE] at hs
  | mapg es b c => simp [storeE] at hs
  | iter m c s => simp [storeE] at hs
  | siter s c => simp [storeE] at hs
  | arr e s' ver' room els =>
    simp only [storeE] at hs
    split at hs
    · rename_i hc
      obtain ⟨rfl, rfl, hkl⟩ := hc
      obtain ⟨el, hel, rfl⟩ := Option.map_eq_some_iff.1 hs
      obtain ⟨h1, h1', h2, h3, h4⟩ := hg1.objs id _ hf1
      simp only [ORep] at h4
      obtain ⟨b', n', cs, g1, g2, g3, g4, g5, g6, g7⟩ := h4.resolve_left (by intro hh; rw [hh.1] at hb; cases hb)
      rw [hb] at g1
      simp only [Option.some.injEq, Prod.mk.injEq] at g1
      obtain ⟨rfl, rfl⟩ := g1
      have hil : i < els.length := (List.getElem?_eq_some_iff.1 hel).1
      have hin : (i + 1) * s ≤ n * s := Nat.mul_le_mul_right _ (by omega)
      rw [Nat.add_mul] at hin
      obtain ⟨ce, q1, q2, q3⟩ := g7.get hel
      have hvl : (a.eval x).cells.size = ti.size := by rw [DRepL.cell rd]; exact hl
      have hvl' : (a.eval x).cells.toList.length = d.cells.length := by rw [Array.length_toList, hvl, hl]
      have hfit : i * s + k + (a.eval x).cells.toList.length ≤ cs.length := by omega
      refine wp_skipped (w' := w.setRow b (splice cs (i * s + k) (a.eval x).cells.toList).toArray) ?_ ?_
      · simp only [execOp, hop, hav]
        rw [Sem.run_bind, storeVar_run hk ht g5 hvl (by omega) (rd.cells.ones hone)]
        rfl
      · obtain ⟨m1, m2, m3, m4⟩ := setRow_mods w b (splice cs (i * s + k) (a.eval x).cells.toList).toArray
        have hbk : blk φ id (.arr e s ver room els) = some b := by simp [blk, hb]
        have hblk' : ∀ els', blk φ id (.arr e s ver room els') = some b := fun _ => by simp [blk, hb]
        have hobj := setRow_heap w b cs.toArray (splice cs (i * s + k) (a.eval x).cells.toList).toArray e (0, 0) g5
        have hset := hg1.set (w' := w.setRow b (splice cs (i * s + k) (a.eval x).cells.toList).toArray) (id := id) (o' := .arr e s ver room (els.set i (el.withCells (splice el.cells k d.cells)))) (S' := S) (φ' := φ) m1 m2 m3 (by rw [m4]; exact Nat.le_refl _)
          (fun c hc hno => setRow_other w b c _ fun e => hno _ hf1 (e ▸ hbk)) (fun _ _ h => h) (fun _ _ _ => rfl) h1 h1' (fun _ _ _ h => h) (by simp only [PObj.und])
          (fun c hc => by rw [hblk'] at hc; cases hc; exact ⟨by rw [m4]; exact (h3 b hbk).1, .inr ⟨_, hf1, hbk⟩⟩) ?_
        · refine Rst.after (c := undef) (by simpa [updAll] using hset) hd ?_ ?_ (fun _ _ h => ⟨h, rfl⟩) (fun i v hv => .inl ⟨v, hv⟩)
          · simp only [PVal.und]
          · simp only [PRep]
        · have hO := held_set (o' := .arr e s ver room (els.set i (el.withCells (splice el.cells k d.cells)))) (φ' := φ) hg1 (fun _ _ _ => rfl) (fun c hc => by rw [hblk'] at hc; cases hc; exact .inr ⟨_, hf1, hbk⟩)
          have hkp : Keeps (Held E φ (delAll (st.evs x).ids st.heap)) w (w.setRow b (splice cs (i * s + k) (a.eval x).cells.toList).toArray) := ⟨by rw [m4]; exact Nat.le_refl _, fun c hlt hc => setRow_other w b c _ fun e => hc (.inr ⟨id, _, hf1, e ▸ hbk⟩)⟩
          simp only [ORep]
          refine .inr ⟨b, n, _, hb, by simpa using g2, g3, g4, hobj, by rw [length_splice' _ _ _ hfit]; exact g6, DRepE.of fun j y hy => ?_⟩
          rw [Nat.zero_add]
          by_cases hji : j = i
          · subst hji
            rw [List.getElem?_set_self hil] at hy
            cases hy
            obtain ⟨c', r1, r2⟩ := withCells_rep q1 q2 rd.cells hkl hone
            have hcl : ce.cells.toList.length = s := by simpa using q2
            refine ⟨c', DRep.keep hkp hO _ _ r1, ?_, fun m hm => ?_⟩
            · have := congrArg List.length r2
              rw [length_splice' _ _ _ (by omega)] at this
              rw [← Array.length_toList, this, hcl]
            · rw [cell_of_row _ _ _ _ _ _ hobj]
              have hms : m < s := by rw [r2, length_splice' _ _ _ (by omega), hcl] at hm; exact hm
              have hsrc : cs[j * s + m]? = ce.cells.toList[m]? := by
                have := q3 m (by omega)
                rw [Nat.zero_add, cell_of_row _ _ _ _ _ _ g5] at this
                have e2 : cs[j * s + m]? = some (ce.cells.toList[m]'(by omega)) := by simpa using this
                rw [e2, List.getElem?_eq_getElem (by omega)]
              rw [List.getElem?_toArray, splice_get _ _ _ _ hfit]
              rw [← List.getElem?_eq_getElem hm, r2, splice_get _ _ _ _ (by omega)]
              by_cases hmk : k ≤ m ∧ m < k + (a.eval x).cells.toList.length
              · rw [if_pos (by omega), if_pos hmk]; congr 1; omega
              · rw [if_neg (by omega), if_neg hmk, hsrc]
          · rw [List.getElem?_set_ne (by omega)] at hy
            obtain ⟨c', r1, r2, r3⟩ := g7.get hy
            refine ⟨c', DRep.keep hkp hO _ _ r1, r2, fun m hm => ?_⟩
            have := r3 m hm
            rw [Nat.zero_add, cell_of_row _ _ _ _ _ _ g5] at this
            rw [cell_of_row _ _ _ _ _ _ hobj, List.getElem?_toArray, splice_get _ _ _ _ hfit, ← this]
            have hms : m < s := by rw [Array.length_toList, r2] at hm; exact hm
            rw [if_neg ?_]
            · simp
            · rcases Nat.lt_or_gt_of_ne hji with hlt | hgt
              · have : (j + 1) * s ≤ i * s := Nat.mul_le_mul_right _ hlt
                rw [Nat.add_mul] at this; omega
              · have : (i + 1) * s ≤ j * s := Nat.mul_le_mul_right _ hgt
                rw [Nat.add_mul] at this; omega
    · cases hs
end
end Go.Proofs.Ytdodgbhodkcckaa.Pv
end
end
