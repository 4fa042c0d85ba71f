/- Walks of matching: who isn't a party of an item can do nothing to it. -/
import Derived.Test.YtdodgbhodkcckaaPmi
import Derived.Test.YtdodgbhodkcckaaPmk
set_option linter.unusedVariables false
set_option linter.unusedSimpArgs false
set_option autoImplicit false
set_option maxRecDepth 100000
namespace Go.Proofs.Ytdodgbhodkcckaa.Pv
open Go Go.RowKit

/-- What is said by a client, or by a node. -/
structure Word where
  from' : Int
  msg : Msg
def Word.d (w : Word) : D := .agg (I64 w.from' :: w.msg.cells)
def wordsD (ws : List Word) : List D := ws.map Word.d
theorem words_len (ws : List Word) : (wordsD ws).length = ws.length := by simp [wordsD]
theorem words_get {ws : List Word} {i : Nat} {w : Word} (h : ws[i]? = some w) : (wordsD ws)[i]? = some (.agg [I64 w.from', I64 w.msg.kind, I64 w.msg.seller, I64 w.msg.number, I64 w.msg.buyer, I64 w.msg.currency, I64 w.msg.round, I64 w.msg.cycle, I64 w.msg.amount, .v (.bool w.msg.yes), w.msg.lines, w.msg.nets]) := by
  simp [wordsD, h, Word.d, Msg.cells]
/-- A desk to which all is said. -/
def playR (d : Desk) (ws : List Word) : Desk := ws.foldl (fun d w => (doR d w.msg w.from').d) d
theorem play_take {d : Desk} {ws : List Word} {i : Nat} {w : Word} (h : ws[i]? = some w) : playR d (ws.take (i + 1)) = (doR (playR d (ws.take i)) w.msg w.from').d := by
  unfold playR; rw [List.take_add_one, h, List.foldl_append]; rfl
theorem play_gd : ∀ (ws : List Word) (d : Desk), DeskGd d → (∀ w ∈ ws, In64 w.msg.amount) → DeskGd (playR d ws)
  | [], d, h, _ => h
  | w :: ws, d, h, hw => play_gd ws _ (do_gd h (hw w (by simp)) _) fun x hx => hw x (by simp [hx])
theorem desk0_gd {me far : Int} (hf : In64 far) : DeskGd (desk0 me far) := ⟨desk0_ok hf, Good.nil me⟩
theorem gd_len {d : Desk} (h : DeskGd d) : d.items.length ≤ 1000000 := by have := h.ok.li; omega

end Go.Proofs.Ytdodgbhodkcckaa.Pv
