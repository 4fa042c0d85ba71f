/- Rules for walks, more of them. No program is in sight here. -/
import Derived.Test.YtdodgbhodkcckaaPv3
set_option linter.unusedVariables false
set_option autoImplicit false
namespace Go.Proofs.Ytdodgbhodkcckaa.Pv
open Go Go.RowKit

/-- A call that is given a row of one's own, whole, as data. -/
theorem CallK.giveO {P : Program} {fid : Nat} {nid : Nat → Nat} {st : St} {K : Eff → Prop} {id ver s e len : Nat} {room : Option Nat} {els : List D} {r : PVal} {h' : List (Nat × PObj)} (hf : find id st.heap = some (.arr e s ver room els)) (hl : len = els.length) (hr : Runs P fid [.d (.slc s els)] [] r h') (hn : (h'.map (·.1)).Nodup)
    (hK : K ⟨r.shift (rename [] nid), [id], shiftH (rename [] nid) h'⟩) : CallK P fid nid st [.own id ver s 0 len] K :=
  CallK.give (ds := [.slc s els]) (by subst hl; simp [toDL, PVal.toD, hf]) hr hn hK
/-- A call behind a guard, of what names no object. -/
theorem CallG.toI {P : Program} {fid : Nat} {g : Bool} {st : St} {qs : List PVal} {G : Prop} {ds : List D} {x : D} {K : Eff → Prop} (hd : toDL st.heap qs = some ds) (hi : idsL qs = []) (hr : Runs P fid (ds.map .d) [] (.d x) []) (hG : g = true → G) (hK : K ⟨.gd g (.d x), [], []⟩) : CallG P fid g st qs G K :=
  ⟨ds.map .d, x, fun e => ⟨(args_toDL hd).1, fun p hp => by obtain ⟨y, _, rfl⟩ := List.mem_map.1 hp; exact ⟨y, rfl⟩, hr, hG e⟩, .inl (by rw [(args_toDL (ρ := fun k => k) hd).2, hi]), hK⟩

/-- What is handed back is data, and objects that were handed in. -/
theorem Fin.dataV {T : Nat → Option TI} {rs : List ResultVar} {e : Exit} {st : St} {ps : List PVal} {g : Prop} {y : D} {h' : List (Nat × PObj)} (V : Turn) (he : e = .normal ∨ e = .ret) (hr : resL T st rs = some (ps, g)) (hg : g) (hV : turnOK V (h'.map (·.1)) = true)
    (hh : viewH V { st with tmps := [(0, resP ps)] } (keptOf V ⟨[(0, .d y)], h', 12⟩) 12 h') (hp : viewP V st.heap (keptOf V ⟨[(0, .d y)], h', 12⟩) 12 (resP ps) (.d y)) : Fin T rs (.d y) h' e st := by
  refine ⟨he, ?_⟩
  rw [hr]
  exact ⟨hg, V, hV, hh, hp⟩
/-- A call that is handed data and a variable, which it hands back as it was. -/
theorem CallK.capt {P : Program} {fid : Nat} {nid : Nat → Nat} {st : St} {K : Eff → Prop} {q : PVal} {x y r : D} {id : Nat} {cs : List D} (hr : Runs P fid [.d y, .ref 0 0] [(0, .box (cs.map .d))] (.d r) [(0, .box (cs.map .d))]) (hq : q.toD st.heap = some x) (hs : subD x y) (hi : q.ids = []) (hf : find id st.heap = some (.box (cs.map .d)))
    (hK : K ⟨.d r, [id], [(id, .box (cs.map .d))]⟩) : CallK P fid nid st [q, .ref id 0] K := by
  have sh : ∀ (ρ : Nat → Nat) (l : List D), shiftL ρ (l.map .d) = l.map .d := by
    intro ρ l
    induction l with
    | nil => rfl
    | cons a l ih => simp only [List.map_cons, shiftL, PVal.shift, ih]
  refine ⟨[id], _, _, _, _, false, ?_, hr, ⟨by simp, by simp, rfl, ?_⟩, ⟨by simp, by simp [frozen, hi]⟩, .inr (.inl (by simp [frozen, hi])), ?_⟩
  · simp only [argsP, argP, hq, and_true]
    exact ⟨hs, by simp [PVal.shift, rename]⟩
  · simp [PObj.shift, sh, hf]
  · simpa [PVal.shift, shiftH, PObj.shift, sh, rename] using hK

end Go.Proofs.Ytdodgbhodkcckaa.Pv
