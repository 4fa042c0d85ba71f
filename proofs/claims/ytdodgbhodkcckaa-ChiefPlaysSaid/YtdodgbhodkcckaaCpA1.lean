/- A part of the proof: the machine of plain values and walks of functions. -/
import Derived.Test.YtdodgbhodkcckaaCp5
section
set_option linter.unusedVariables false
set_option linter.unusedSimpArgs false
set_option autoImplicit false
set_option maxRecDepth 100000
namespace Go.Proofs.Ytdodgbhodkcckaa.Pv
open Go Go.RowKit
abbrev BD (b : Bool) : D := .v (.bool b)
abbrev LD (l : List Line) : D := .slc 4 (linesD l)
def drC (d : DRun) : List D := I64 d.cur :: I64 d.st :: (d.off.map BD ++ (d.vot.map BD ++ (d.ofs.map LD ++ [.slc 4 (linesD d.ls), .slc 1 (d.ns.map I64)])))
def drunsC (rs : List DRun) : List D := rs.map fun d => .agg (drC d)
def dchD (n : Nat) (rs : List DRun) : D := .agg [I64 n, .slc 28 (drunsC rs)]
def dOutD (n : Nat) (r : DOut) : D := .tup [dchD n r.rs, .slc 12 (sentsD r.o), I64 r.e]
theorem dr_len {n : Nat} {d : DRun} (h : RunOK n d) : (drC d).length = 28 := by simp [drC, h.off, h.vot, h.ofs]
theorem dr_one (d : DRun) : (drC d).all D.one = true := by
  rw [List.all_eq_true]
  intro x hx
  simp only [drC, List.mem_cons, List.mem_append, List.mem_map, List.not_mem_nil, or_false] at hx
  rcases hx with rfl | rfl | ⟨_, _, rfl⟩ | ⟨_, _, rfl⟩ | ⟨_, _, rfl⟩ | rfl | rfl <;> rfl
theorem dr_st (d : DRun) : (drC d)[1]? = some (I64 d.st) := rfl
theorem getD_some {α : Type} {l : List α} {k : Nat} (h : k < l.length) (z : α) : l[k]? = some (l.getD k z) := by
  rw [List.getD_eq_getElem?_getD, List.getElem?_eq_getElem h]; rfl
theorem dr_off {n k : Nat} {d : DRun} (h : RunOK n d) (hk : k < 8) : (drC d)[2 + k]? = some (BD (d.off.getD k false)) := by
  unfold drC
  rw [show 2 + k = (k + 1) + 1 by omega, List.getElem?_cons_succ, List.getElem?_cons_succ, List.getElem?_append_left (by simp [h.off]; omega), List.getElem?_map, getD_some (by rw [h.off]; exact hk) false]; rfl
theorem dr_vot {n k : Nat} {d : DRun} (h : RunOK n d) (hk : k < 8) : (drC d)[10 + k]? = some (BD (d.vot.getD k false)) := by
  unfold drC
  rw [show 10 + k = (8 + k + 1) + 1 by omega, List.getElem?_cons_succ, List.getElem?_cons_succ, List.getElem?_append_right (by simp [h.off]), List.length_map, h.off, show 8 + k - 8 = k by omega, List.getElem?_append_left (by simp [h.vot]; omega), List.getElem?_map, getD_some (by rw [h.vot]; exact hk) false]; rfl
theorem dr_ofs {n k : Nat} {d : DRun} (h : RunOK n d) (hk : k < 8) : (drC d)[18 + k]? = some (LD (d.ofs.getD k [])) := by
  unfold drC
  rw [show 18 + k = (16 + k + 1) + 1 by omega, List.getElem?_cons_succ, List.getElem?_cons_succ, List.getElem?_append_right (by simp [h.off]; omega), List.length_map, h.off, List.getElem?_append_right (by simp [h.vot]; omega), List.length_map, h.vot, show 16 + k - 8 - 8 = k by omega, List.getElem?_append_left (by simp [h.ofs]; omega), List.getElem?_map, getD_some (by rw [h.ofs]; exact hk) []]; rfl
theorem dr_set_st (d : DRun) (s : Int) : (drC d).set 1 (I64 s) = drC { d with st := s } := rfl
theorem dr_set_off {n k : Nat} {d : DRun} (h : RunOK n d) (hk : k < 8) : (drC d).set (2 + k) (BD true) = drC { d with off := d.off.set k true } := by
  unfold drC
  rw [show 2 + k = (k + 1) + 1 by omega, List.set_cons_succ, List.set_cons_succ, List.set_append_left _ _ (by simp [h.off]; omega), List.map_set]
theorem dr_set_vot {n k : Nat} {d : DRun} (h : RunOK n d) (hk : k < 8) : (drC d).set (10 + k) (BD true) = drC (votB d k) := by
  unfold drC votB
  rw [show 10 + k = (8 + k + 1) + 1 by omega, List.set_cons_succ, List.set_cons_succ, List.set_append_right _ _ (by simp [h.off]), List.length_map, h.off, show 8 + k - 8 = k by omega, List.set_append_left _ _ (by simp [h.vot]; omega), List.map_set]
theorem dr_set_ofs {n k : Nat} {d : DRun} (h : RunOK n d) (hk : k < 8) (l : List Line) : (drC d).set (18 + k) (LD l) = drC { d with ofs := d.ofs.set k l } := by
  unfold drC
  rw [show 18 + k = (16 + k + 1) + 1 by omega, List.set_cons_succ, List.set_cons_succ, List.set_append_right _ _ (by simp [h.off]; omega), List.length_map, h.off, List.set_append_right _ _ (by simp [h.vot]; omega), List.length_map, h.vot, show 16 + k - 8 - 8 = k by omega, List.set_append_left _ _ (by simp [h.ofs]; omega), List.map_set]
theorem dr_set_ls {n : Nat} {d : DRun} (h : RunOK n d) (l : List Line) : (drC d).set 26 (LD l) = drC { d with ls := l } := by
  unfold drC
  rw [List.set_cons_succ, List.set_cons_succ, List.set_append_right _ _ (by simp [h.off]), List.length_map, h.off, List.set_append_right _ _ (by simp [h.vot]), List.length_map, h.vot, List.set_append_right _ _ (by simp [h.ofs]), List.length_map, h.ofs]; rfl
theorem dr_set_ns {n : Nat} {d : DRun} (h : RunOK n d) (l : List Int) : (drC d).set 27 (.slc 1 (l.map I64)) = drC { d with ns := l } := by
  unfold drC
  rw [List.set_cons_succ, List.set_cons_succ, List.set_append_right _ _ (by simp [h.off]), List.length_map, h.off, List.set_append_right _ _ (by simp [h.vot]), List.length_map, h.vot, List.set_append_right _ _ (by simp [h.ofs]), List.length_map, h.ofs]; rfl
theorem spl {l l' : List D} {k : Nat} {x : D} (hk : k < l.length) (h : l.set k x = l') : (l.map PVal.d).take k ++ [PVal.d x] ++ (l.map PVal.d).drop (k + 1) = l'.map PVal.d := by
  rw [← h, List.map_set, List.set_eq_take_append_cons_drop, if_pos (by simpa using hk), List.append_assoc]; rfl
theorem ldc {l : List D} {k : Nat} {x : D} (h : l[k]? = some x) : (l.map PVal.d).drop k = PVal.d x :: (l.map PVal.d).drop (k + 1) := by
  rw [← List.map_drop, ← List.map_drop, drop_cons h]; rfl
theorem druns_len (rs : List DRun) : (drunsC rs).length = rs.length := by simp [drunsC]
theorem druns_get {i : Nat} {rs : List DRun} {d : DRun} (h : rs[i]? = some d) : (drunsC rs)[i]? = some (.agg (drC d)) := by simp [drunsC, h]
theorem druns_one (rs : List DRun) : ∀ x ∈ drunsC rs, x.cells.all D.one = true := by
  intro x hx
  simp only [drunsC, List.mem_map] at hx
  obtain ⟨k, _, rfl⟩ := hx
  exact dr_one k
theorem druns_set (rs : List DRun) (i : Nat) (d : DRun) : drunsC (rs.set i d) = (drunsC rs).set i (.agg (drC d)) := by simp [drunsC, List.map_set]
def L208 (n : Nat) (m : VMsg) (i : Nat) : St :=
  ⟨[(6, pint .i64 i), (5, .own 60 0 12 0 i), (3, .ref 8 0), (0, pint .i64 n)], [(8, boxV m), (60, .arr 137 12 0 none (sentsD (allV i m)))], 100⟩
set_option maxHeartbeats 8000000 in
theorem run208 (n : Nat) (m : VMsg) (hn : n ≤ 8) : Runs Try.prog 208 [pint .i64 n, .d m.msg.d] [] (.d (.slc 12 (sentsD (allV n m)))) [] := by
  unfold VMsg.msg Msg.d Msg.cells
  refine Runs.of (kit Try.prog) Try.func208 rfl rfl (by rw [Try.ntmps208]; exact of_decide_eq_true rfl) ?_; rw [Try.ntmps208, Try.results208]
  repeat' (first|((first|refine goA rfl fun K hK=>?_|refine goB rfl fun K hK=>?_|refine goC rfl rfl fun K hK=>?_|refine goD rfl rfl fun K hK=>?_);simp (dsimp:=false) only [↓gq,↓stepP,↓stepG,go_sem])|refine Pwp.seq ?_|refine Pwp.block ?_|(refine Pwp.exit ?_;simp only [thenS,blockS,if_true,if_false,reduceIte,Nat.reduceEqDiff,Nat.add_one_ne_zero,reduceCtorEq])|(refine Pwp.skip ?_;simp only [thenS,blockS])|(refine Pwp.cond rfl True.intro (fun h=>?_) (fun h=>?_)<;>(try (cases h;done))<;>(try simp only [h]))|refine Pwp.ret ?_|(refine hK _ ?_;clear hK K)|(refine hK _ _ rfl ?_;clear hK K)|refine CallG.off ?_|with_reducible refine Or.inl ?_|simp only [thenS,blockS]|with_reducible refine And.intro ?_ ?_|with_reducible exact True.intro|simp (dsimp:=false) only [↓gq,↓stepP,↓stepG,go_sem])
  all_goals (try (first|(intro hg;simp [hg];done)|exact of_decide_eq_true rfl|(cases h;done)))
  refine Pwp.range n (S := L208 n m) (Sub.view (VN 60) (by simp [L208]) rfl (by simp [L208,boxV,sentsD,allV]) (by simp [L208,boxV,sentsD,allV])) (fun i hi => ?_) ?_
  · have c1 := dlt hi
    have w1 := wrap_succ (i := i) (by omega)
    have hal := allV_len i m
    have hsu := allV_succ i m
    have htk : (sentsD (allV i m)).take i = sentsD (allV i m) := List.take_of_length_le (by omega)
    unfold L208 boxV
    repeat' (first|((first|refine goA rfl fun K hK=>?_|refine goB rfl fun K hK=>?_|refine goC rfl rfl fun K hK=>?_|refine goD rfl rfl fun K hK=>?_);simp (dsimp:=false) only [↓gq,↓stepP,↓stepG,go_sem,c1,w1,hal,htk])|refine Pwp.seq ?_|refine Pwp.block ?_|(refine Pwp.exit ?_;simp only [thenS,blockS,if_true,if_false,reduceIte,Nat.reduceEqDiff,Nat.add_one_ne_zero,reduceCtorEq])|(refine Pwp.skip ?_;simp only [thenS,blockS])|(refine Pwp.cond rfl True.intro (fun h=>?_) (fun h=>?_)<;>(try (cases h;done))<;>(try simp only [h]))|refine Pwp.ret ?_|(refine hK _ ?_;clear hK K)|(refine hK _ _ rfl ?_;clear hK K)|refine CallG.off ?_|with_reducible refine Or.inl ?_|simp only [thenS,blockS]|with_reducible refine And.intro ?_ ?_|with_reducible exact True.intro|simp (dsimp:=false) only [↓gq,↓stepP,↓stepG,go_sem,c1,w1,hal,htk])
    all_goals (try (first|(intro hg;simp [hg];done)|exact of_decide_eq_true rfl|(cases h;done)))
    all_goals (try (first | omega | (simp [maxLen]; omega) | (simp [hal]; done)))
    exact Sub.view (VR 60 1) (by simp [L208]) rfl (by simp [L208,boxV,hsu]) (by simp [L208,boxV,hsu])
  · have c1 := dge (Nat.le_refl n)
    have hal := allV_len n m
    have htk : (sentsD (allV n m)).take n = sentsD (allV n m) := List.take_of_length_le (by omega)
    unfold L208 boxV
    repeat' (first|((first|refine goA rfl fun K hK=>?_|refine goB rfl fun K hK=>?_|refine goC rfl rfl fun K hK=>?_|refine goD rfl rfl fun K hK=>?_);simp (dsimp:=false) only [↓gq,↓stepP,↓stepG,go_sem,c1,hal,htk])|refine Pwp.seq ?_|refine Pwp.block ?_|(refine Pwp.exit ?_;simp only [thenS,blockS,if_true,if_false,reduceIte,Nat.reduceEqDiff,Nat.add_one_ne_zero,reduceCtorEq])|(refine Pwp.skip ?_;simp only [thenS,blockS])|(refine Pwp.cond rfl True.intro (fun h=>?_) (fun h=>?_)<;>(try (cases h;done))<;>(try simp only [h]))|refine Pwp.ret ?_|(refine hK _ ?_;clear hK K)|(refine hK _ _ rfl ?_;clear hK K)|refine CallG.off ?_|with_reducible refine Or.inl ?_|simp only [thenS,blockS]|with_reducible refine And.intro ?_ ?_|with_reducible exact True.intro|simp (dsimp:=false) only [↓gq,↓stepP,↓stepG,go_sem,c1,hal,htk])
    all_goals (try (first|(intro hg;simp [hg];done)|exact of_decide_eq_true rfl|(cases h;done)))
    (refine Fin.data (.inr rfl) (by simp (dsimp:=false) only [↓gq,↓stepP,↓stepG,go_sem,resL,hal,htk]; rfl) (by simp only [and_self]) (by simp (dsimp:=false) only [↓gq,↓stepP,↓stepG,go_sem,resP,Nat.le_refl,List.take_length,hal,htk]; try rfl) ?_)
    exact subD_refl _
theorem idsL_d : ∀ l : List D, idsL (l.map PVal.d) = []
  | [] => rfl
  | x :: l => by rw [List.map_cons, idsL, idsL_d l]; rfl
set_option maxHeartbeats 8000000 in
theorem run209 (n : Nat) (rs : List DRun) (c : Int) (d : DRun) (hr : RunsOK n rs) (hd : RunOK n d) (hl : rs.length ≤ 10000) (h1 : 1 ≤ c) (h2 : c ≤ (rs.length : Int)) :
    Runs Try.prog 209 [.d (dchD n rs), pint .i64 c, .d (.agg (drC d))] [] (.d (dchD n (cPut rs c d))) [] := by
  have hlen := druns_len rs
  have w1 : IntKind.i64.wrap (c - 1) = c - 1 := wrap_of (by omega) (by omega)
  have p0 : (0 : Int) ≤ c - 1 := by omega
  have hk : (c - 1).toNat < rs.length := by omega
  obtain ⟨y, hy, hm⟩ := at_lt hk
  have hg := druns_get hy
  have hst := druns_set rs (c - 1).toNat d
  have hone := druns_one rs
  have hdl := dr_len hd
  have hyl := dr_len (hr y hm)
  have hml : (List.map PVal.d (drC d)).length = 28 := by rw [List.length_map]; exact hdl
  have hmt : (List.map PVal.d (drC d)).take 28 = List.map PVal.d (drC d) := List.take_of_length_le (by omega)
  have hyd : (drC y).drop 28 = [] := List.drop_of_length_le (by omega)
  have hall := dr_one d
  have htl := toDL_ds
  have hle : ((drunsC rs).set (c - 1).toNat (.agg (drC d))).length = rs.length := by rw [List.length_set, hlen]
  have htk : ((drunsC rs).set (c - 1).toNat (.agg (drC d))).take rs.length = drunsC (cPut rs c d) := by unfold cPut; rw [hst, List.take_of_length_le (by omega)]
  have htr : (drunsC rs).take rs.length = drunsC rs := List.take_of_length_le (by omega)
  have hil := idsL_d (drC d)
  unfold dchD
  refine Runs.of (kit Try.prog) Try.func209 rfl rfl (by rw [Try.ntmps209]; exact of_decide_eq_true rfl) ?_; rw [Try.ntmps209, Try.results209]
  repeat' (first|((first|refine goA rfl fun K hK=>?_|refine goB rfl fun K hK=>?_|refine goC rfl rfl fun K hK=>?_|refine goD rfl rfl fun K hK=>?_);simp (dsimp:=false) only [↓gq,↓stepP,↓stepG,go_sem,hil,hlen,w1,hg,hk,p0,hml,hmt,hyd,hdl,hall,htl,htr])|refine Pwp.seq ?_|refine Pwp.block ?_|(refine Pwp.exit ?_;simp only [thenS,blockS,if_true,if_false,reduceIte,Nat.reduceEqDiff,Nat.add_one_ne_zero,reduceCtorEq])|(refine Pwp.skip ?_;simp only [thenS,blockS])|(refine Pwp.cond rfl True.intro (fun h=>?_) (fun h=>?_)<;>(try (cases h;done))<;>(try simp only [h]))|refine Pwp.ret ?_|(refine hK _ ?_;clear hK K)|(refine hK _ _ rfl ?_;clear hK K)|refine CallG.off ?_|with_reducible refine Or.inl ?_|simp only [thenS,blockS]|with_reducible refine And.intro ?_ ?_|with_reducible exact True.intro|simp (dsimp:=false) only [↓gq,↓stepP,↓stepG,go_sem,hil,hlen,w1,hg,hk,p0,hml,hmt,hyd,hdl,hall,htl,htr])
  all_goals (try (first|(intro hg;simp [hg];done)|exact of_decide_eq_true rfl|(cases h;done)))
  all_goals (try (first | exact hone | omega | (simp [maxLen]; omega)))
  (refine Fin.data (.inr rfl) (by simp (dsimp:=false) only [↓gq,↓stepP,↓stepG,go_sem,resL,hle,htk,Nat.le_refl]; rfl) (by simp only [and_self]) (by simp (dsimp:=false) only [↓gq,↓stepP,↓stepG,go_sem,resP,Nat.le_refl,List.take_length,hle,htk,Nat.le_refl]; try rfl) ?_)
  exact subD_refl _
end Go.Proofs.Ytdodgbhodkcckaa.Pv
end
section
set_option linter.unusedVariables false
set_option linter.unusedSimpArgs false
set_option autoImplicit false
set_option maxRecDepth 100000
namespace Go.Proofs.Ytdodgbhodkcckaa.Pv
open Go Go.RowKit
set_option maxHeartbeats 16000000 in
theorem run156 (n : Nat) (rs : List DRun) (c : Int) (d : DRun) (yes : Bool) (hn : n ≤ 8) (hr : RunsOK n rs) (hd : RunOK n d) (hl : rs.length ≤ 10000) (h1 : 1 ≤ c) (h2 : c ≤ (rs.length : Int)) :
    Runs Try.prog 156 [.d (dchD n rs), pint .i64 c, .d (.agg (drC d)), pbool yes] [] (.d (dOutD n (cEnd n rs c d yes))) [] := by
  have r209 := run209 n rs c { d with st := if yes = true then 3 else 4 } hr (hd.state (by cases yes <;> simp)) hl h1 h2
  have r208 := run208 n (decV c yes) hn
  have e1 : dOutD n (cEnd n rs c d yes) = .tup [dchD n (cPut rs c { d with st := if yes = true then 3 else 4 }), .slc 12 (sentsD (allV n (decV c yes))), I64 0] := rfl
  have hdl := dr_len hd
  have s4 := spl (l := drC d) (k := 1) (x := I64 4) (by omega) (dr_set_st d 4)
  have s3 := spl (l := drC { d with st := 4 }) (k := 1) (x := I64 3) (by rw [dr_len (hd.state (by simp))]; omega) (dr_set_st { d with st := 4 } 3)
  have hl3 := dr_len (n := n) (d := { d with st := 3 }) (hd.state (by simp))
  have hl4 := dr_len (n := n) (d := { d with st := 4 }) (hd.state (by simp))
  have m3 : (List.map PVal.d (drC { d with st := 3 })).length = 28 := by rw [List.length_map]; exact hl3
  have m4 : (List.map PVal.d (drC { d with st := 4 })).length = 28 := by rw [List.length_map]; exact hl4
  have m0 : (List.map PVal.d (drC d)).length = 28 := by rw [List.length_map]; exact hdl
  have t3 : (List.map PVal.d (drC { d with st := 3 })).take 28 = List.map PVal.d (drC { d with st := 3 }) := List.take_of_length_le (by omega)
  have t4 : (List.map PVal.d (drC { d with st := 4 })).take 28 = List.map PVal.d (drC { d with st := 4 }) := List.take_of_length_le (by omega)
  have htl := toDL_ds
  rw [e1]
  generalize cPut rs c _ = X at *
  generalize sentsD _ = Y at *
  unfold dchD VMsg.msg decV Msg.d Msg.cells at *
  simp only at r208 r209 s3
  cases yes with
  | true =>
    simp only [if_true] at *
    generalize ({ d with st := 3 } : DRun) = d3 at *
    generalize ({ d with st := 4 } : DRun) = d4 at *
    refine Runs.of (kit Try.prog) Try.func156 rfl rfl (by rw [Try.ntmps156]; exact of_decide_eq_true rfl) ?_; rw [Try.ntmps156, Try.results156]
    repeat' (first|((first|refine goA rfl fun K hK=>?_|refine goB rfl fun K hK=>?_|refine goC rfl rfl fun K hK=>?_|refine goD rfl rfl fun K hK=>?_);simp (dsimp:=false) only [↓gq,↓stepP,↓stepG,go_sem,idsL_d,s3,s4,m0,m3,m4,t3,t4])|refine Pwp.seq ?_|refine Pwp.block ?_|(refine Pwp.exit ?_;simp only [thenS,blockS,if_true,if_false,reduceIte,Nat.reduceEqDiff,Nat.add_one_ne_zero,reduceCtorEq])|(refine Pwp.skip ?_;simp only [thenS,blockS])|(refine Pwp.cond rfl True.intro (fun h=>?_) (fun h=>?_)<;>(try (cases h;done))<;>(try simp only [h]))|refine Pwp.ret ?_|(refine hK _ ?_;clear hK K)|(refine hK _ _ rfl ?_;clear hK K)|(refine CallK.give (ds:=[.agg [I64 n, .slc 28 (drunsC rs)], I64 c, .agg (drC d3)]) (by simp [toDL, PVal.toD, htl]) r209 (by simp) ?_)|(refine CallK.giveS (ds:=[I64 n, .agg [I64 14, I64 0, I64 0, I64 0, I64 0, I64 0, I64 c, I64 0, .v (.bool true), nilD, nilD]]) (es:=[I64 n, .agg [I64 14, I64 0, I64 0, I64 0, I64 0, I64 0, I64 c, I64 0, .v (.bool true), .slc 4 (linesD []), .slc 1 (List.map I64 [])]]) rfl (by simp [subL, subD, subV, subD_refl, linesD]) r208 (by simp) ?_)|(refine hK _ _ (by simp [idsL_d, idsL, PVal.ids, St.ev, find, Op.operands, Call.operands, PVal.strip] <;> rfl) ?_)|refine CallG.off ?_|with_reducible refine Or.inl ?_|simp only [thenS,blockS]|with_reducible refine And.intro ?_ ?_|with_reducible exact True.intro|simp (dsimp:=false) only [↓gq,↓stepP,↓stepG,go_sem,idsL_d,s3,s4,m0,m3,m4,t3,t4])
    all_goals (try (first|(intro hg;simp [hg];done)|exact of_decide_eq_true rfl|(cases h;done)))
    all_goals (try (first | omega | (simp; done)))
    (refine Fin.data (.inr rfl) (by simp (dsimp:=false) only [↓gq,↓stepP,↓stepG,go_sem,resL]; rfl) (by simp only [and_self]) (by simp (dsimp:=false) only [↓gq,↓stepP,↓stepG,go_sem,resP,Nat.le_refl,List.take_length]; try rfl) ?_)
    exact subD_refl _
  | false =>
    simp only [Bool.false_eq_true, if_false] at *
    generalize ({ d with st := 3 } : DRun) = d3 at *
    generalize ({ d with st := 4 } : DRun) = d4 at *
    refine Runs.of (kit Try.prog) Try.func156 rfl rfl (by rw [Try.ntmps156]; exact of_decide_eq_true rfl) ?_; rw [Try.ntmps156, Try.results156]
    repeat' (first|((first|refine goA rfl fun K hK=>?_|refine goB rfl fun K hK=>?_|refine goC rfl rfl fun K hK=>?_|refine goD rfl rfl fun K hK=>?_);simp (dsimp:=false) only [↓gq,↓stepP,↓stepG,go_sem,idsL_d,s3,s4,m0,m3,m4,t3,t4])|refine Pwp.seq ?_|refine Pwp.block ?_|(refine Pwp.exit ?_;simp only [thenS,blockS,if_true,if_false,reduceIte,Nat.reduceEqDiff,Nat.add_one_ne_zero,reduceCtorEq])|(refine Pwp.skip ?_;simp only [thenS,blockS])|(refine Pwp.cond rfl True.intro (fun h=>?_) (fun h=>?_)<;>(try (cases h;done))<;>(try simp only [h]))|refine Pwp.ret ?_|(refine hK _ ?_;clear hK K)|(refine hK _ _ rfl ?_;clear hK K)|(refine CallK.give (ds:=[.agg [I64 n, .slc 28 (drunsC rs)], I64 c, .agg (drC d4)]) (by simp [toDL, PVal.toD, htl]) r209 (by simp) ?_)|(refine CallK.giveS (ds:=[I64 n, .agg [I64 14, I64 0, I64 0, I64 0, I64 0, I64 0, I64 c, I64 0, .v (.bool false), nilD, nilD]]) (es:=[I64 n, .agg [I64 14, I64 0, I64 0, I64 0, I64 0, I64 0, I64 c, I64 0, .v (.bool false), .slc 4 (linesD []), .slc 1 (List.map I64 [])]]) rfl (by simp [subL, subD, subV, subD_refl, linesD]) r208 (by simp) ?_)|(refine hK _ _ (by simp [idsL_d, idsL, PVal.ids, St.ev, find, Op.operands, Call.operands, PVal.strip] <;> rfl) ?_)|refine CallG.off ?_|with_reducible refine Or.inl ?_|simp only [thenS,blockS]|with_reducible refine And.intro ?_ ?_|with_reducible exact True.intro|simp (dsimp:=false) only [↓gq,↓stepP,↓stepG,go_sem,idsL_d,s3,s4,m0,m3,m4,t3,t4])
    all_goals (try (first|(intro hg;simp [hg];done)|exact of_decide_eq_true rfl|(cases h;done)))
    all_goals (try (first | omega | (simp; done)))
    (refine Fin.data (.inr rfl) (by simp (dsimp:=false) only [↓gq,↓stepP,↓stepG,go_sem,resL]; rfl) (by simp only [and_self]) (by simp (dsimp:=false) only [↓gq,↓stepP,↓stepG,go_sem,resP,Nat.le_refl,List.take_length]; try rfl) ?_)
    exact subD_refl _
def L153 (n : Nat) (rs : List DRun) (m : VMsg) (i : Nat) : St :=
  ⟨[(7, pint .i64 i), (4, .ref 10 0), (3, .ref 9 0), (2, .ref 8 0)], [(8, .box [.d (I64 n), .d (.slc 28 (drunsC rs))]), (9, boxV m), (10, .box [.d (I64 0), .d nilD])], 64⟩
theorem zero_dr (cur : Int) : subL [I64 cur, I64 1, BD false, BD false, BD false, BD false, BD false, BD false, BD false, BD false, BD false, BD false, BD false, BD false, BD false, BD false, BD false, BD false, nilD, nilD, nilD, nilD, nilD, nilD, nilD, nilD, nilD, nilD] (drC (zeroR cur)) := by
  simp [drC, zeroR, List.replicate, subL, subD, subV, linesD]
set_option maxHeartbeats 32000000 in
theorem run153 (n : Nat) (rs : List DRun) (m : VMsg) (hn : n ≤ 8) (hr : RunsOK n rs) (hl : rs.length ≤ 10000) : Runs Try.prog 153 [.d (dchD n rs), .d m.msg.d] [] (.d (dOutD n (cStart n rs m.currency))) [] := by
  have hlen := druns_len rs
  have hone := druns_one rs
  have e1 : ∀ r : DOut, dOutD n r = .tup [dchD n r.rs, .slc 12 (sentsD r.o), I64 r.e] := fun _ => rfl
  unfold cStart
  cases hb : (decide (m.currency < 0) || decide (7 < m.currency)) with
  | true =>
    rw [if_pos rfl, e1]
    unfold dchD VMsg.msg Msg.d Msg.cells
    refine Runs.of (kit Try.prog) Try.func153 rfl rfl (by rw [Try.ntmps153]; exact of_decide_eq_true rfl) ?_; rw [Try.ntmps153, Try.results153]
    repeat' (first|((first|refine goA rfl fun K hK=>?_|refine goB rfl fun K hK=>?_|refine goC rfl rfl fun K hK=>?_|refine goD rfl rfl fun K hK=>?_);simp (dsimp:=false) only [↓gq,↓stepP,↓stepG,go_sem,hb])|refine Pwp.seq ?_|refine Pwp.block ?_|(refine Pwp.exit ?_;simp only [thenS,blockS,if_true,if_false,reduceIte,Nat.reduceEqDiff,Nat.add_one_ne_zero,reduceCtorEq])|(refine Pwp.skip ?_;simp only [thenS,blockS])|(refine Pwp.cond rfl True.intro (fun h=>?_) (fun h=>?_)<;>(try (cases h;done))<;>(try simp only [h]))|refine Pwp.ret ?_|(refine hK _ ?_;clear hK K)|(refine hK _ _ rfl ?_;clear hK K)|refine CallG.off ?_|with_reducible refine Or.inl ?_|simp only [thenS,blockS]|with_reducible refine And.intro ?_ ?_|with_reducible exact True.intro|simp (dsimp:=false) only [↓gq,↓stepP,↓stepG,go_sem,hb])
    all_goals (try (first|(intro hg;simp [hg];done)|exact of_decide_eq_true rfl|(cases h;done)))
    all_goals (try (intro hg; simp only [hg, Bool.not_false, Bool.not_true, Bool.and_self, Bool.true_and, Bool.and_true, true_and, and_self, imp_self, implies_true]; done))
    (refine Fin.data (.inr rfl) (by simp (dsimp:=false) only [↓gq,↓stepP,↓stepG,go_sem,resL]; rfl) (by simp only [and_self]) (by simp (dsimp:=false) only [↓gq,↓stepP,↓stepG,go_sem,resP,Nat.le_refl,List.take_length]; try rfl) ?_)
    simp [sentsD]
  | false =>
    rw [if_neg (by simp)]
    have r208 := run208 n (askV ((rs.length : Int) + 1) m.currency) hn
    have htr : (drunsC rs).take rs.length = drunsC rs := List.take_of_length_le (by omega)
    have hzs := zero_dr m.currency
    have hsub : subL (drunsC rs ++ [D.agg [I64 m.currency, I64 1, BD false, BD false, BD false, BD false, BD false, BD false, BD false, BD false, BD false, BD false, BD false, BD false, BD false, BD false, BD false, BD false, nilD, nilD, nilD, nilD, nilD, nilD, nilD, nilD, nilD, nilD]]) (drunsC (rs ++ [zeroR m.currency])) := by
      have e : drunsC (rs ++ [zeroR m.currency]) = drunsC rs ++ [.agg (drC (zeroR m.currency))] := by simp [drunsC]
      rw [e]
      refine subL_append (subL_refl _) ?_
      simp only [subL, subD, and_true]
      exact hzs
    have hql : (drunsC rs ++ [D.agg [I64 m.currency, I64 1, BD false, BD false, BD false, BD false, BD false, BD false, BD false, BD false, BD false, BD false, BD false, BD false, BD false, BD false, BD false, BD false, nilD, nilD, nilD, nilD, nilD, nilD, nilD, nilD, nilD, nilD]]).length = rs.length + 1 := by simp [hlen]
    have hqt : (drunsC rs ++ [D.agg [I64 m.currency, I64 1, BD false, BD false, BD false, BD false, BD false, BD false, BD false, BD false, BD false, BD false, BD false, BD false, BD false, BD false, BD false, BD false, nilD, nilD, nilD, nilD, nilD, nilD, nilD, nilD, nilD, nilD]]).take (rs.length + 1) = drunsC rs ++ [D.agg [I64 m.currency, I64 1, BD false, BD false, BD false, BD false, BD false, BD false, BD false, BD false, BD false, BD false, BD false, BD false, BD false, BD false, BD false, BD false, nilD, nilD, nilD, nilD, nilD, nilD, nilD, nilD, nilD, nilD]] := List.take_of_length_le (by omega)
    unfold VMsg.msg askV Msg.d Msg.cells at r208
    simp only at r208
    unfold dchD VMsg.msg Msg.d Msg.cells
    refine Runs.of (kit Try.prog) Try.func153 rfl rfl (by rw [Try.ntmps153]; exact of_decide_eq_true rfl) ?_; rw [Try.ntmps153, Try.results153]
    repeat' (first|((first|refine goA rfl fun K hK=>?_|refine goB rfl fun K hK=>?_|refine goC rfl rfl fun K hK=>?_|refine goD rfl rfl fun K hK=>?_);simp (dsimp:=false) only [↓gq,↓stepP,↓stepG,go_sem,hb,hlen])|refine Pwp.seq ?_|refine Pwp.block ?_|(refine Pwp.exit ?_;simp only [thenS,blockS,if_true,if_false,reduceIte,Nat.reduceEqDiff,Nat.add_one_ne_zero,reduceCtorEq])|(refine Pwp.skip ?_;simp only [thenS,blockS])|(refine Pwp.cond rfl True.intro (fun h=>?_) (fun h=>?_)<;>(try (cases h;done))<;>(try simp only [h]))|refine Pwp.ret ?_|(refine hK _ ?_;clear hK K)|(refine hK _ _ rfl ?_;clear hK K)|refine CallG.off ?_|with_reducible refine Or.inl ?_|simp only [thenS,blockS]|with_reducible refine And.intro ?_ ?_|with_reducible exact True.intro|simp (dsimp:=false) only [↓gq,↓stepP,↓stepG,go_sem,hb,hlen])
    all_goals (try (first|(intro hg;simp [hg];done)|exact of_decide_eq_true rfl|(cases h;done)))
    all_goals (try (intro hg; simp only [hg, Bool.not_false, Bool.not_true, Bool.and_self, Bool.true_and, Bool.and_true, true_and, and_self, imp_self, implies_true]; done))
    refine Pwp.rangeI rs.length (fun i s => (∀ d ∈ rs.take i, (decide (d.st < 3) && d.cur == m.currency) = false) ∧ s = L153 n rs m i) (s0 := L153 n rs m 0) (Sub.view V0 (by simp [L153]) rfl (by simp [L153,boxV]) (by simp [L153,boxV])) ⟨by simp, rfl⟩ ?_ ?_
    · rintro i s hi ⟨hok, rfl⟩
      obtain ⟨y, hy, hm⟩ := at_lt hi
      have hg := druns_get hy
      have c1 := dlt hi
      have w1 := wrap_succ (i := i) (by omega)
      have hs2 : List.map PVal.d (List.drop 1 (drC y)) = PVal.d (I64 y.st) :: ((drC y).drop 2).map PVal.d := rfl
      have hc2 : List.map PVal.d (drC y) = PVal.d (I64 y.cur) :: ((drC y).drop 1).map PVal.d := rfl
      cases hq : (decide (y.st < 3) && y.cur == m.currency) with
      | true =>
        have ha : rs.any (fun d => decide (d.st < 3) && d.cur == m.currency) = true := List.any_eq_true.2 ⟨y, hm, hq⟩
        rw [if_pos ha, e1]
        unfold dchD
        unfold L153 boxV
        repeat' (first|((first|refine goA rfl fun K hK=>?_|refine goB rfl fun K hK=>?_|refine goC rfl rfl fun K hK=>?_|refine goD rfl rfl fun K hK=>?_);simp (dsimp:=false) only [↓gq,↓stepP,↓stepG,go_sem,hg,c1,w1,hlen,hs2,hc2,hq])|refine Pwp.seq ?_|refine Pwp.block ?_|(refine Pwp.exit ?_;simp only [thenS,blockS,if_true,if_false,reduceIte,Nat.reduceEqDiff,Nat.add_one_ne_zero,reduceCtorEq])|(refine Pwp.skip ?_;simp only [thenS,blockS])|(refine Pwp.cond rfl True.intro (fun h=>?_) (fun h=>?_)<;>(try (cases h;done))<;>(try simp only [h]))|refine Pwp.ret ?_|(refine hK _ ?_;clear hK K)|(refine hK _ _ rfl ?_;clear hK K)|refine CallG.off ?_|with_reducible refine Or.inl ?_|simp only [thenS,blockS]|with_reducible refine And.intro ?_ ?_|with_reducible exact True.intro|simp (dsimp:=false) only [↓gq,↓stepP,↓stepG,go_sem,hg,c1,w1,hlen,hs2,hc2,hq])
        all_goals (try (first|(intro hg;simp [hg];done)|exact of_decide_eq_true rfl|(cases h;done)))
        all_goals (try (intro hg; simp only [hg, Bool.not_false, Bool.not_true, Bool.and_self, Bool.true_and, Bool.and_true, true_and, and_self, imp_self, implies_true]; done))
        (refine Fin.data (.inr rfl) (by simp (dsimp:=false) only [↓gq,↓stepP,↓stepG,go_sem,resL]; rfl) (by simp only [and_self]) (by simp (dsimp:=false) only [↓gq,↓stepP,↓stepG,go_sem,resP,Nat.le_refl,List.take_length]; try rfl) ?_)
        simp [sentsD]
      | false =>
        unfold L153 boxV
        repeat' (first|((first|refine goA rfl fun K hK=>?_|refine goB rfl fun K hK=>?_|refine goC rfl rfl fun K hK=>?_|refine goD rfl rfl fun K hK=>?_);simp (dsimp:=false) only [↓gq,↓stepP,↓stepG,go_sem,hg,c1,w1,hlen,hs2,hc2,hq])|refine Pwp.seq ?_|refine Pwp.block ?_|(refine Pwp.exit ?_;simp only [thenS,blockS,if_true,if_false,reduceIte,Nat.reduceEqDiff,Nat.add_one_ne_zero,reduceCtorEq])|(refine Pwp.skip ?_;simp only [thenS,blockS])|(refine Pwp.cond rfl True.intro (fun h=>?_) (fun h=>?_)<;>(try (cases h;done))<;>(try simp only [h]))|refine Pwp.ret ?_|(refine hK _ ?_;clear hK K)|(refine hK _ _ rfl ?_;clear hK K)|refine CallG.off ?_|with_reducible refine Or.inl ?_|simp only [thenS,blockS]|with_reducible refine And.intro ?_ ?_|with_reducible exact True.intro|simp (dsimp:=false) only [↓gq,↓stepP,↓stepG,go_sem,hg,c1,w1,hlen,hs2,hc2,hq])
        all_goals (try (first|(intro hg;simp [hg];done)|exact of_decide_eq_true rfl|(cases h;done)))
        all_goals (try (intro hg; simp only [hg, Bool.not_false, Bool.not_true, Bool.and_self, Bool.true_and, Bool.and_true, true_and, and_self, imp_self, implies_true]; done))
        refine ⟨_, Sub.view V0 (by simp [L153]) rfl (by simp [L153,boxV]) (by simp [L153,boxV]), fun d hd => ?_, rfl⟩
        rw [List.take_add_one, hy] at hd
        rcases List.mem_append.1 hd with hd | hd
        · exact hok d hd
        · obtain rfl := by simpa using hd
          exact hq
    · rintro s ⟨hok, rfl⟩
      have c1 := dge (Nat.le_refl rs.length)
      rw [List.take_length] at hok
      have ha : rs.any (fun d => decide (d.st < 3) && d.cur == m.currency) = false := by
        rw [List.any_eq_false]
        intro d hd h
        rw [hok d hd] at h; cases h
      rw [if_neg (by rw [ha]; simp), e1]
      unfold dchD
      unfold L153 boxV
      repeat' (first|((first|refine goA rfl fun K hK=>?_|refine goB rfl fun K hK=>?_|refine goC rfl rfl fun K hK=>?_|refine goD rfl rfl fun K hK=>?_);simp (dsimp:=false) only [↓gq,↓stepP,↓stepG,go_sem,c1,hlen,htr,hql])|refine Pwp.seq ?_|refine Pwp.block ?_|(refine Pwp.exit ?_;simp only [thenS,blockS,if_true,if_false,reduceIte,Nat.reduceEqDiff,Nat.add_one_ne_zero,reduceCtorEq])|(refine Pwp.skip ?_;simp only [thenS,blockS])|(refine Pwp.cond rfl True.intro (fun h=>?_) (fun h=>?_)<;>(try (cases h;done))<;>(try simp only [h]))|refine Pwp.ret ?_|(refine hK _ ?_;clear hK K)|(refine hK _ _ rfl ?_;clear hK K)|(refine CallK.giveS (ds:=[I64 n, .agg [I64 10, I64 0, I64 0, I64 0, I64 m.currency, I64 0, I64 ((rs.length : Int) + 1), I64 0, .v (.bool false), nilD, nilD]]) (es:=[I64 n, .agg [I64 10, I64 0, I64 0, I64 0, I64 m.currency, I64 0, I64 ((rs.length : Int) + 1), I64 0, .v (.bool false), .slc 4 (linesD []), .slc 1 (List.map I64 [])]]) rfl (by simp [subL, subD, subV, subD_refl, linesD]) r208 (by simp) ?_)|refine CallG.off ?_|with_reducible refine Or.inl ?_|simp only [thenS,blockS]|with_reducible refine And.intro ?_ ?_|with_reducible exact True.intro|simp (dsimp:=false) only [↓gq,↓stepP,↓stepG,go_sem,c1,hlen,htr,hql])
      all_goals (try (first|(intro hg;simp [hg];done)|exact of_decide_eq_true rfl|(cases h;done)))
      all_goals (try (first | exact hone | omega | (simp [maxLen]; omega) | (simp; done)))
      (refine Fin.data (.inr rfl) (by simp (dsimp:=false) only [↓gq,↓stepP,↓stepG,go_sem,resL,hql,hqt,Nat.le_refl]; rfl) (by simp only [and_self]) (by simp (dsimp:=false) only [↓gq,↓stepP,↓stepG,go_sem,resP,Nat.le_refl,List.take_length,hql,hqt,Nat.le_refl]; try rfl) ?_)
      simp [subL, subD, hsub]
      exact subL_refl _
end Go.Proofs.Ytdodgbhodkcckaa.Pv
end
section
set_option linter.unusedVariables false
set_option linter.unusedSimpArgs false
set_option autoImplicit false
set_option maxRecDepth 100000
namespace Go.Proofs.Ytdodgbhodkcckaa.Pv
open Go Go.RowKit
def L155 (n : Nat) (rs : List DRun) (d : DRun) (m : VMsg) (i : Nat) : St :=
  ⟨[(11, pint .i64 i), (8, .ref 11 0), (6, .ref 10 0), (5, .ref 9 0), (4, .ref 8 0)], [(8, .box [.d (I64 n), .d (.slc 28 (drunsC rs))]), (9, .box ((drC d).map .d)), (10, boxV m), (11, .box [.d (I64 0), .d nilD])], 92⟩
set_option maxHeartbeats 64000000 in
theorem run155 (n : Nat) (rs : List DRun) (d : DRun) (m : VMsg) (g : Nat) (hn : n ≤ 8) (hr : RunsOK n rs) (hd : RunOK n d) (hg : g < n) (hl : rs.length ≤ 10000) (h1 : 1 ≤ m.cycle) (h2 : m.cycle ≤ (rs.length : Int)) :
    Runs Try.prog 155 [.d (dchD n rs), .d (.agg (drC d)), .d m.msg.d, pint .i64 g] [] (.d (dOutD n (cVote n rs d m.cycle m.yes g))) [] := by
  have e1 : ∀ r : DOut, dOutD n r = .tup [dchD n r.rs, .slc 12 (sentsD r.o), I64 r.e] := fun _ => rfl
  have hdl := dr_len hd
  have m0 : (List.map PVal.d (drC d)).length = 28 := by rw [List.length_map]; exact hdl
  have lst := ldc (dr_st d)
  have lv := ldc (dr_vot hd (k := g) (by omega))
  have pg : (0 : Int) ≤ (g : Int) := by omega
  unfold cVote
  cases hs : (d.st != 2) with
  | true =>
    rw [if_pos rfl, e1]
    unfold dchD VMsg.msg Msg.d Msg.cells
    refine Runs.of (kit Try.prog) Try.func155 rfl rfl (by rw [Try.ntmps155]; exact of_decide_eq_true rfl) ?_; rw [Try.ntmps155, Try.results155]
    repeat' (first|((first|refine goA rfl fun K hK=>?_|refine goB rfl fun K hK=>?_|refine goC rfl rfl fun K hK=>?_|refine goD rfl rfl fun K hK=>?_);simp (dsimp:=false) only [↓gq,↓stepP,↓stepG,go_sem,lst,hs])|refine Pwp.seq ?_|refine Pwp.block ?_|(refine Pwp.exit ?_;simp only [thenS,blockS,if_true,if_false,reduceIte,Nat.reduceEqDiff,Nat.add_one_ne_zero,reduceCtorEq])|(refine Pwp.skip ?_;simp only [thenS,blockS])|(refine Pwp.cond rfl True.intro (fun h=>?_) (fun h=>?_)<;>(try (cases h;done))<;>(try simp only [h]))|refine Pwp.ret ?_|(refine hK _ ?_;clear hK K)|(refine hK _ _ rfl ?_;clear hK K)|refine CallG.off ?_|with_reducible refine Or.inl ?_|simp only [thenS,blockS]|with_reducible refine And.intro ?_ ?_|with_reducible exact True.intro|simp (dsimp:=false) only [↓gq,↓stepP,↓stepG,go_sem,lst,hs])
    all_goals (try (first|(intro hg;simp [hg];done)|exact of_decide_eq_true rfl|(cases h;done)))
    (refine Fin.data (.inr rfl) (by simp (dsimp:=false) only [↓gq,↓stepP,↓stepG,go_sem,resL]; rfl) (by simp only [and_self]) (by simp (dsimp:=false) only [↓gq,↓stepP,↓stepG,go_sem,resP,Nat.le_refl,List.take_length]; try rfl) ?_)
    simp [sentsD]
  | false =>
    rw [if_neg (by simp)]
    cases hv : d.vot.getD g false with
    | true =>
      rw [if_pos rfl, e1]
      rw [hv] at lv
      unfold dchD VMsg.msg Msg.d Msg.cells
      refine Runs.of (kit Try.prog) Try.func155 rfl rfl (by rw [Try.ntmps155]; exact of_decide_eq_true rfl) ?_; rw [Try.ntmps155, Try.results155]
      repeat' (first|((first|refine goA rfl fun K hK=>?_|refine goB rfl fun K hK=>?_|refine goC rfl rfl fun K hK=>?_|refine goD rfl rfl fun K hK=>?_);simp (dsimp:=false) only [↓gq,↓stepP,↓stepG,go_sem,lst,hs,lv,Nat.mul_one,pg])|refine Pwp.seq ?_|refine Pwp.block ?_|(refine Pwp.exit ?_;simp only [thenS,blockS,if_true,if_false,reduceIte,Nat.reduceEqDiff,Nat.add_one_ne_zero,reduceCtorEq])|(refine Pwp.skip ?_;simp only [thenS,blockS])|(refine Pwp.cond rfl True.intro (fun h=>?_) (fun h=>?_)<;>(try (cases h;done))<;>(try simp only [h]))|refine Pwp.ret ?_|(refine hK _ ?_;clear hK K)|(refine hK _ _ rfl ?_;clear hK K)|refine CallG.off ?_|with_reducible refine Or.inl ?_|simp only [thenS,blockS]|with_reducible refine And.intro ?_ ?_|with_reducible exact True.intro|simp (dsimp:=false) only [↓gq,↓stepP,↓stepG,go_sem,lst,hs,lv,Nat.mul_one,pg])
      all_goals (try (first|(intro hg;simp [hg];done)|exact of_decide_eq_true rfl|(cases h;done)))
      all_goals (try (first | omega | exact ⟨by omega, by omega⟩))
      (refine Fin.data (.inr rfl) (by simp (dsimp:=false) only [↓gq,↓stepP,↓stepG,go_sem,resL]; rfl) (by simp only [and_self]) (by simp (dsimp:=false) only [↓gq,↓stepP,↓stepG,go_sem,resP,Nat.le_refl,List.take_length]; try rfl) ?_)
      simp [sentsD]
    | false =>
      rw [if_neg (by simp)]
      rw [hv] at lv
      have hd' := hd.votB (f := g)
      have ss := spl (l := drC d) (k := 10 + g) (x := BD true) (by omega) (dr_set_vot hd (k := g) (by omega))
      have hdl' := dr_len hd'
      have m1 : (List.map PVal.d (drC (votB d g))).length = 28 := by rw [List.length_map]; exact hdl'
      have t1 : (List.map PVal.d (drC (votB d g))).take 28 = List.map PVal.d (drC (votB d g)) := List.take_of_length_le (by omega)
      have rF := run156 n rs m.cycle (votB d g) false hn hr hd' hl h1 h2
      have rT := run156 n rs m.cycle (votB d g) true hn hr hd' hl h1 h2
      have rP := run209 n rs m.cycle (votB d g) hr hd' hl h1 h2
      have htl := toDL_ds
      rw [e1] at rF rT
      cases hy : m.yes with
      | false =>
        rw [if_pos rfl, e1]
        generalize sentsD (cEnd n rs m.cycle (votB d g) false).o = Y at *
        generalize (cEnd n rs m.cycle (votB d g) false).rs = X at *
        unfold dchD VMsg.msg Msg.d Msg.cells at *
        refine Runs.of (kit Try.prog) Try.func155 rfl rfl (by rw [Try.ntmps155]; exact of_decide_eq_true rfl) ?_; rw [Try.ntmps155, Try.results155]
        repeat' (first|((first|refine goA rfl fun K hK=>?_|refine goB rfl fun K hK=>?_|refine goC rfl rfl fun K hK=>?_|refine goD rfl rfl fun K hK=>?_);simp (dsimp:=false) only [↓gq,↓stepP,↓stepG,go_sem,idsL_d,lst,hs,lv,Nat.mul_one,pg,hy,m0,m1,t1,ss])|refine Pwp.seq ?_|refine Pwp.block ?_|(refine Pwp.exit ?_;simp only [thenS,blockS,if_true,if_false,reduceIte,Nat.reduceEqDiff,Nat.add_one_ne_zero,reduceCtorEq])|(refine Pwp.skip ?_;simp only [thenS,blockS])|(refine Pwp.cond rfl True.intro (fun h=>?_) (fun h=>?_)<;>(try (cases h;done))<;>(try simp only [h]))|refine Pwp.ret ?_|(refine hK _ ?_;clear hK K)|(refine hK _ _ rfl ?_;clear hK K)|(refine CallK.give (ds:=[.agg [I64 n, .slc 28 (drunsC rs)], I64 m.cycle, .agg (drC (votB d g)), .v (.bool false)]) (by simp [toDL, PVal.toD, htl]) rF (by simp) ?_)|(refine hK _ _ (by simp [idsL_d, idsL, PVal.ids, St.ev, find, Op.operands, Call.operands, PVal.strip] <;> rfl) ?_)|refine CallG.off ?_|with_reducible refine Or.inl ?_|simp only [thenS,blockS]|with_reducible refine And.intro ?_ ?_|with_reducible exact True.intro|simp (dsimp:=false) only [↓gq,↓stepP,↓stepG,go_sem,idsL_d,lst,hs,lv,Nat.mul_one,pg,hy,m0,m1,t1,ss])
        all_goals (try (first|(intro hg;simp [hg];done)|exact of_decide_eq_true rfl|(cases h;done)))
        all_goals (try (first | omega | exact ⟨by omega, by omega⟩))
        (refine Fin.data (.inr rfl) (by simp (dsimp:=false) only [↓gq,↓stepP,↓stepG,go_sem,resL]; rfl) (by simp only [and_self]) (by simp (dsimp:=false) only [↓gq,↓stepP,↓stepG,go_sem,resP,Nat.le_refl,List.take_length]; try rfl) ?_)
        exact subD_refl _
      | true =>
        rw [if_neg (by simp)]
        have lvk : ∀ k, k < 8 → List.drop (10 + k) (List.map PVal.d (drC (votB d g))) = PVal.d (BD ((votB d g).vot.getD k false)) :: List.drop (10 + k + 1) (List.map PVal.d (drC (votB d g))) := fun k hk => ldc (dr_vot hd' hk)
        have hcond : (if okB (votB d g).vot n = false then (⟨0, cPut rs m.cycle (votB d g), []⟩ : DOut) else cEnd n rs m.cycle (votB d g) true) = (if okB (votB d g).vot n = false then (⟨0, cPut rs m.cycle (votB d g), []⟩ : DOut) else cEnd n rs m.cycle (votB d g) true) := rfl
        generalize hvd : votB d g = d' at *
        unfold dchD at rF rT rP
        unfold VMsg.msg Msg.d Msg.cells
        unfold dchD
        refine Runs.of (kit Try.prog) Try.func155 rfl rfl (by rw [Try.ntmps155]; exact of_decide_eq_true rfl) ?_; rw [Try.ntmps155, Try.results155]
        repeat' (first|((first|refine goA rfl fun K hK=>?_|refine goB rfl fun K hK=>?_|refine goC rfl rfl fun K hK=>?_|refine goD rfl rfl fun K hK=>?_);simp (dsimp:=false) only [↓gq,↓stepP,↓stepG,go_sem,lst,hs,lv,Nat.mul_one,pg,hy,m0,m1,t1,ss])|refine Pwp.seq ?_|refine Pwp.block ?_|(refine Pwp.exit ?_;simp only [thenS,blockS,if_true,if_false,reduceIte,Nat.reduceEqDiff,Nat.add_one_ne_zero,reduceCtorEq])|(refine Pwp.skip ?_;simp only [thenS,blockS])|(refine Pwp.cond rfl True.intro (fun h=>?_) (fun h=>?_)<;>(try (cases h;done))<;>(try simp only [h]))|refine Pwp.ret ?_|(refine hK _ ?_;clear hK K)|(refine hK _ _ rfl ?_;clear hK K)|refine CallG.off ?_|with_reducible refine Or.inl ?_|simp only [thenS,blockS]|with_reducible refine And.intro ?_ ?_|with_reducible exact True.intro|simp (dsimp:=false) only [↓gq,↓stepP,↓stepG,go_sem,lst,hs,lv,Nat.mul_one,pg,hy,m0,m1,t1,ss])
        all_goals (try (first|(intro hg;simp [hg];done)|exact of_decide_eq_true rfl|(cases h;done)))
        all_goals (try (first | omega | exact ⟨by omega, by omega⟩))
        refine Pwp.rangeI n (fun i s => (∀ k, k < i → d'.vot.getD k false = true) ∧ s = L155 n rs d' m i) (s0 := L155 n rs d' m 0) (Sub.view V0 (by simp [L155]) rfl (by simp [L155,boxV,hy]) (by simp [L155,boxV,hy])) ⟨by omega, rfl⟩ ?_ ?_
        · rintro i s hi ⟨hok, rfl⟩
          have c1 := dlt hi
          have w1 := wrap_succ (i := i) (by omega)
          have lvi := lvk i (by omega)
          have pi : (0 : Int) ≤ (i : Int) := by omega
          cases hoff : d'.vot.getD i false with
          | false =>
            have hno : okB d'.vot n = false := by
              unfold okB
              rw [List.all_eq_false]
              exact ⟨i, List.mem_range.2 hi, by rw [hoff]; simp⟩
            rw [if_pos hno, e1]
            rw [hoff] at lvi
            unfold dchD
            unfold L155 boxV
            repeat' (first|((first|refine goA rfl fun K hK=>?_|refine goB rfl fun K hK=>?_|refine goC rfl rfl fun K hK=>?_|refine goD rfl rfl fun K hK=>?_);simp (dsimp:=false) only [↓gq,↓stepP,↓stepG,go_sem,idsL_d,c1,w1,lvi,Nat.mul_one,pi,m1,t1])|refine Pwp.seq ?_|refine Pwp.block ?_|(refine Pwp.exit ?_;simp only [thenS,blockS,if_true,if_false,reduceIte,Nat.reduceEqDiff,Nat.add_one_ne_zero,reduceCtorEq])|(refine Pwp.skip ?_;simp only [thenS,blockS])|(refine Pwp.cond rfl True.intro (fun h=>?_) (fun h=>?_)<;>(try (cases h;done))<;>(try simp only [h]))|refine Pwp.ret ?_|(refine hK _ ?_;clear hK K)|(refine hK _ _ rfl ?_;clear hK K)|(refine CallK.give (ds:=[.agg [I64 n, .slc 28 (drunsC rs)], I64 m.cycle, .agg (drC d')]) (by simp [toDL, PVal.toD, htl]) rP (by simp) ?_)|(refine hK _ _ (by simp [idsL_d, idsL, PVal.ids, St.ev, find, Op.operands, Call.operands, PVal.strip] <;> rfl) ?_)|refine CallG.off ?_|with_reducible refine Or.inl ?_|simp only [thenS,blockS]|with_reducible refine And.intro ?_ ?_|with_reducible exact True.intro|simp (dsimp:=false) only [↓gq,↓stepP,↓stepG,go_sem,idsL_d,c1,w1,lvi,Nat.mul_one,pi,m1,t1])
            all_goals (try (first|(intro hg;simp [hg];done)|exact of_decide_eq_true rfl|(cases h;done)))
            all_goals (try (first | omega | exact ⟨by omega, by omega⟩))
            (refine Fin.data (.inr rfl) (by simp (dsimp:=false) only [↓gq,↓stepP,↓stepG,go_sem,resL]; rfl) (by simp only [and_self]) (by simp (dsimp:=false) only [↓gq,↓stepP,↓stepG,go_sem,resP,Nat.le_refl,List.take_length]; try rfl) ?_)
            simp [sentsD]
          | true =>
            rw [hoff] at lvi
            unfold L155 boxV
            repeat' (first|((first|refine goA rfl fun K hK=>?_|refine goB rfl fun K hK=>?_|refine goC rfl rfl fun K hK=>?_|refine goD rfl rfl fun K hK=>?_);simp (dsimp:=false) only [↓gq,↓stepP,↓stepG,go_sem,c1,w1,lvi,Nat.mul_one,pi,m1,t1])|refine Pwp.seq ?_|refine Pwp.block ?_|(refine Pwp.exit ?_;simp only [thenS,blockS,if_true,if_false,reduceIte,Nat.reduceEqDiff,Nat.add_one_ne_zero,reduceCtorEq])|(refine Pwp.skip ?_;simp only [thenS,blockS])|(refine Pwp.cond rfl True.intro (fun h=>?_) (fun h=>?_)<;>(try (cases h;done))<;>(try simp only [h]))|refine Pwp.ret ?_|(refine hK _ ?_;clear hK K)|(refine hK _ _ rfl ?_;clear hK K)|refine CallG.off ?_|with_reducible refine Or.inl ?_|simp only [thenS,blockS]|with_reducible refine And.intro ?_ ?_|with_reducible exact True.intro|simp (dsimp:=false) only [↓gq,↓stepP,↓stepG,go_sem,c1,w1,lvi,Nat.mul_one,pi,m1,t1])
            all_goals (try (first|(intro hg;simp [hg];done)|exact of_decide_eq_true rfl|(cases h;done)))
            all_goals (try (first | omega | exact ⟨by omega, by omega⟩))
            refine ⟨_, Sub.view V0 (by simp [L155]) rfl (by simp [L155,boxV]) (by simp [L155,boxV]), fun k hk => ?_, rfl⟩
            rcases Nat.lt_or_ge k i with h | h
            · exact hok k h
            · obtain rfl : k = i := by omega
              exact hoff
        · rintro s ⟨hok, rfl⟩
          have c1 := dge (Nat.le_refl n)
          have hyo : okB d'.vot n = true := by
            unfold okB
            rw [List.all_eq_true]
            exact fun k hk => hok k (List.mem_range.1 hk)
          rw [if_neg (by rw [hyo]; simp), e1]
          generalize sentsD (cEnd n rs m.cycle d' true).o = Y at *
          generalize (cEnd n rs m.cycle d' true).rs = X at *
          unfold dchD
          unfold L155 boxV
          repeat' (first|((first|refine goA rfl fun K hK=>?_|refine goB rfl fun K hK=>?_|refine goC rfl rfl fun K hK=>?_|refine goD rfl rfl fun K hK=>?_);simp (dsimp:=false) only [↓gq,↓stepP,↓stepG,go_sem,idsL_d,c1,m1,t1])|refine Pwp.seq ?_|refine Pwp.block ?_|(refine Pwp.exit ?_;simp only [thenS,blockS,if_true,if_false,reduceIte,Nat.reduceEqDiff,Nat.add_one_ne_zero,reduceCtorEq])|(refine Pwp.skip ?_;simp only [thenS,blockS])|(refine Pwp.cond rfl True.intro (fun h=>?_) (fun h=>?_)<;>(try (cases h;done))<;>(try simp only [h]))|refine Pwp.ret ?_|(refine hK _ ?_;clear hK K)|(refine hK _ _ rfl ?_;clear hK K)|(refine CallK.give (ds:=[.agg [I64 n, .slc 28 (drunsC rs)], I64 m.cycle, .agg (drC d'), .v (.bool true)]) (by simp [toDL, PVal.toD, htl]) rT (by simp) ?_)|(refine hK _ _ (by simp [idsL_d, idsL, PVal.ids, St.ev, find, Op.operands, Call.operands, PVal.strip] <;> rfl) ?_)|refine CallG.off ?_|with_reducible refine Or.inl ?_|simp only [thenS,blockS]|with_reducible refine And.intro ?_ ?_|with_reducible exact True.intro|simp (dsimp:=false) only [↓gq,↓stepP,↓stepG,go_sem,idsL_d,c1,m1,t1])
          all_goals (try (first|(intro hg;simp [hg];done)|exact of_decide_eq_true rfl|(cases h;done)))
          (refine Fin.data (.inr rfl) (by simp (dsimp:=false) only [↓gq,↓stepP,↓stepG,go_sem,resL]; rfl) (by simp only [and_self]) (by simp (dsimp:=false) only [↓gq,↓stepP,↓stepG,go_sem,resP,Nat.le_refl,List.take_length]; try rfl) ?_)
          exact subD_refl _
end Go.Proofs.Ytdodgbhodkcckaa.Pv
end
section
set_option linter.unusedVariables false
set_option linter.unusedSimpArgs false
set_option autoImplicit false
set_option maxRecDepth 100000
namespace Go.Proofs.Ytdodgbhodkcckaa.Pv
open Go Go.RowKit
def L154a (n : Nat) (rs : List DRun) (d : DRun) (m : VMsg) (g i : Nat) : St :=
  ⟨[(11, pint .i64 i), (8, .ref 11 0), (6, .ref 10 0), (5, .ref 9 0), (4, .ref 8 0), (3, pint .i64 g)], [(8, .box [.d (I64 n), .d (.slc 28 (drunsC rs))]), (9, .box ((drC d).map .d)), (10, boxV m), (11, .box [.d (I64 0), .d nilD])], 64⟩
def L154b (n : Nat) (rs : List DRun) (d : DRun) (m : VMsg) (i : Nat) : St :=
  ⟨[(14, pint .i64 i), (13, .own 60 0 1 0 i), (8, .ref 11 0), (6, .ref 10 0), (5, .ref 9 0), (4, .ref 8 0)], [(8, .box [.d (I64 n), .d (.slc 28 (drunsC rs))]), (9, .box ((drC d).map .d)), (10, boxV m), (11, .box [.d (I64 0), .d nilD]), (60, .arr 92 1 0 none (offersD (d.ofs.take i)))], 252⟩
theorem any_take {α : Type} {p : α → Bool} {l : List α} {i : Nat} {x : α} (h : l[i]? = some x) (hx : p x = false) (hp : ∀ y ∈ l.take i, p y = false) : ∀ y ∈ l.take (i + 1), p y = false := by
  intro y hy
  rw [List.take_add_one, h] at hy
  rcases List.mem_append.1 hy with hy | hy
  · exact hp y hy
  · obtain rfl := by simpa using hy
    exact hx
set_option maxHeartbeats 64000000 in
theorem run154 (n : Nat) (rs : List DRun) (d : DRun) (m : VMsg) (g : Nat) (hn : n ≤ 8) (hr : RunsOK n rs) (hd : RunOK n d) (hg : g < n) (hl : rs.length ≤ 10000) (h1 : 1 ≤ m.cycle) (h2 : m.cycle ≤ (rs.length : Int)) (hml : m.ls.length ≤ 100) :
    Runs Try.prog 154 [.d (dchD n rs), .d (.agg (drC d)), .d m.msg.d, pint .i64 g] [] (.d (dOutD n (cOffer n rs d m.cycle m.ls g))) [] := by
  have e1 : ∀ r : DOut, dOutD n r = .tup [dchD n r.rs, .slc 12 (sentsD r.o), I64 r.e] := fun _ => rfl
  have hdl := dr_len hd
  have m0 : (List.map PVal.d (drC d)).length = 28 := by rw [List.length_map]; exact hdl
  have lst := ldc (dr_st d)
  have lv := ldc (dr_off hd (k := g) (by omega))
  have pg : (0 : Int) ≤ (g : Int) := by omega
  have hll := lines_len m.ls
  have r83 := run83 n m.ls (by omega)
  have htl := toDL_ds
  unfold cOffer
  cases hs : (d.st != 1) with
  | true =>
    rw [if_pos rfl, e1]
    unfold dchD VMsg.msg Msg.d Msg.cells
    refine Runs.of (kit Try.prog) Try.func154 rfl rfl (by rw [Try.ntmps154]; exact of_decide_eq_true rfl) ?_; rw [Try.ntmps154, Try.results154]
    repeat' (first|((first|refine goA rfl fun K hK=>?_|refine goB rfl fun K hK=>?_|refine goC rfl rfl fun K hK=>?_|refine goD rfl rfl fun K hK=>?_);simp (dsimp:=false) only [↓gq,↓stepP,↓stepG,go_sem,lst,hs])|refine Pwp.seq ?_|refine Pwp.block ?_|(refine Pwp.exit ?_;simp only [thenS,blockS,if_true,if_false,reduceIte,Nat.reduceEqDiff,Nat.add_one_ne_zero,reduceCtorEq])|(refine Pwp.skip ?_;simp only [thenS,blockS])|(refine Pwp.cond rfl True.intro (fun h=>?_) (fun h=>?_)<;>(try (cases h;done))<;>(try simp only [h]))|refine Pwp.ret ?_|(refine hK _ ?_;clear hK K)|(refine hK _ _ rfl ?_;clear hK K)|refine CallG.off ?_|with_reducible refine Or.inl ?_|simp only [thenS,blockS]|with_reducible refine And.intro ?_ ?_|with_reducible exact True.intro|simp (dsimp:=false) only [↓gq,↓stepP,↓stepG,go_sem,lst,hs])
    all_goals (try (first|(intro hg;simp [hg];done)|exact of_decide_eq_true rfl|(cases h;done)))
    (refine Fin.data (.inr rfl) (by simp (dsimp:=false) only [↓gq,↓stepP,↓stepG,go_sem,resL]; rfl) (by simp only [and_self]) (by simp (dsimp:=false) only [↓gq,↓stepP,↓stepG,go_sem,resP,Nat.le_refl,List.take_length]; try rfl) ?_)
    simp [sentsD]
  | false =>
    rw [if_neg (by simp)]
    cases hv : d.off.getD g false with
    | true =>
      rw [if_pos rfl, e1]
      rw [hv] at lv
      unfold dchD VMsg.msg Msg.d Msg.cells
      refine Runs.of (kit Try.prog) Try.func154 rfl rfl (by rw [Try.ntmps154]; exact of_decide_eq_true rfl) ?_; rw [Try.ntmps154, Try.results154]
      repeat' (first|((first|refine goA rfl fun K hK=>?_|refine goB rfl fun K hK=>?_|refine goC rfl rfl fun K hK=>?_|refine goD rfl rfl fun K hK=>?_);simp (dsimp:=false) only [↓gq,↓stepP,↓stepG,go_sem,lst,hs,lv,Nat.mul_one,pg])|refine Pwp.seq ?_|refine Pwp.block ?_|(refine Pwp.exit ?_;simp only [thenS,blockS,if_true,if_false,reduceIte,Nat.reduceEqDiff,Nat.add_one_ne_zero,reduceCtorEq])|(refine Pwp.skip ?_;simp only [thenS,blockS])|(refine Pwp.cond rfl True.intro (fun h=>?_) (fun h=>?_)<;>(try (cases h;done))<;>(try simp only [h]))|refine Pwp.ret ?_|(refine hK _ ?_;clear hK K)|(refine hK _ _ rfl ?_;clear hK K)|refine CallG.off ?_|with_reducible refine Or.inl ?_|simp only [thenS,blockS]|with_reducible refine And.intro ?_ ?_|with_reducible exact True.intro|simp (dsimp:=false) only [↓gq,↓stepP,↓stepG,go_sem,lst,hs,lv,Nat.mul_one,pg])
      all_goals (try (first|(intro hg;simp [hg];done)|exact of_decide_eq_true rfl|(cases h;done)))
      all_goals (try (first | omega | exact ⟨by omega, by omega⟩))
      (refine Fin.data (.inr rfl) (by simp (dsimp:=false) only [↓gq,↓stepP,↓stepG,go_sem,resL]; rfl) (by simp only [and_self]) (by simp (dsimp:=false) only [↓gq,↓stepP,↓stepG,go_sem,resP,Nat.le_refl,List.take_length]; try rfl) ?_)
      simp [sentsD]
    | false =>
      rw [if_neg (by simp)]
      rw [hv] at lv
      unfold dchD VMsg.msg Msg.d Msg.cells
      refine Runs.of (kit Try.prog) Try.func154 rfl rfl (by rw [Try.ntmps154]; exact of_decide_eq_true rfl) ?_; rw [Try.ntmps154, Try.results154]
      repeat' (first|((first|refine goA rfl fun K hK=>?_|refine goB rfl fun K hK=>?_|refine goC rfl rfl fun K hK=>?_|refine goD rfl rfl fun K hK=>?_);simp (dsimp:=false) only [↓gq,↓stepP,↓stepG,go_sem,lst,hs,lv,Nat.mul_one,pg,hll])|refine Pwp.seq ?_|refine Pwp.block ?_|(refine Pwp.exit ?_;simp only [thenS,blockS,if_true,if_false,reduceIte,Nat.reduceEqDiff,Nat.add_one_ne_zero,reduceCtorEq])|(refine Pwp.skip ?_;simp only [thenS,blockS])|(refine Pwp.cond rfl True.intro (fun h=>?_) (fun h=>?_)<;>(try (cases h;done))<;>(try simp only [h]))|refine Pwp.ret ?_|(refine hK _ ?_;clear hK K)|(refine hK _ _ rfl ?_;clear hK K)|refine CallG.off ?_|with_reducible refine Or.inl ?_|simp only [thenS,blockS]|with_reducible refine And.intro ?_ ?_|with_reducible exact True.intro|simp (dsimp:=false) only [↓gq,↓stepP,↓stepG,go_sem,lst,hs,lv,Nat.mul_one,pg,hll])
      all_goals (try (first|(intro hg;simp [hg];done)|exact of_decide_eq_true rfl|(cases h;done)))
      all_goals (try (first | omega | exact ⟨by omega, by omega⟩))
      refine Pwp.rangeI m.ls.length (fun i s => (∀ x ∈ m.ls.take i, notMine g x = false) ∧ s = L154a n rs d m g i) (s0 := L154a n rs d m g 0) (Sub.view V0 (by simp [L154a]) rfl (by simp [L154a,boxV]) (by simp [L154a,boxV])) ⟨by simp, rfl⟩ ?_ ?_
      · rintro i s hi ⟨hok, rfl⟩
        obtain ⟨x, hx, hm⟩ := at_lt hi
        have hgx := lines_get hx
        have c1 := dlt hi
        have w1 := wrap_succ (i := i) (by omega)
        cases hnm : notMine g x with
        | true =>
          have ha : m.ls.any (notMine g) = true := List.any_eq_true.2 ⟨x, hm, hnm⟩
          rw [if_pos ha, e1]
          unfold notMine at hnm
          unfold dchD
          unfold L154a boxV
          repeat' (first|((first|refine goA rfl fun K hK=>?_|refine goB rfl fun K hK=>?_|refine goC rfl rfl fun K hK=>?_|refine goD rfl rfl fun K hK=>?_);simp (dsimp:=false) only [↓gq,↓stepP,↓stepG,go_sem,hgx,c1,w1,hll,hnm])|refine Pwp.seq ?_|refine Pwp.block ?_|(refine Pwp.exit ?_;simp only [thenS,blockS,if_true,if_false,reduceIte,Nat.reduceEqDiff,Nat.add_one_ne_zero,reduceCtorEq])|(refine Pwp.skip ?_;simp only [thenS,blockS])|(refine Pwp.cond rfl True.intro (fun h=>?_) (fun h=>?_)<;>(try (cases h;done))<;>(try simp only [h]))|refine Pwp.ret ?_|(refine hK _ ?_;clear hK K)|(refine hK _ _ rfl ?_;clear hK K)|refine CallG.off ?_|with_reducible refine Or.inl ?_|simp only [thenS,blockS]|with_reducible refine And.intro ?_ ?_|with_reducible exact True.intro|simp (dsimp:=false) only [↓gq,↓stepP,↓stepG,go_sem,hgx,c1,w1,hll,hnm])
          all_goals (try (first|(intro hg;simp [hg];done)|exact of_decide_eq_true rfl|(cases h;done)))
          all_goals (try (intro hg; simp only [hg, Bool.not_false, Bool.not_true, Bool.and_self, Bool.true_and, Bool.and_true, true_and, and_self, imp_self, implies_true]; done))
          (refine Fin.data (.inr rfl) (by simp (dsimp:=false) only [↓gq,↓stepP,↓stepG,go_sem,resL]; rfl) (by simp only [and_self]) (by simp (dsimp:=false) only [↓gq,↓stepP,↓stepG,go_sem,resP,Nat.le_refl,List.take_length]; try rfl) ?_)
          simp [sentsD]
        | false =>
          have hok' := any_take hx hnm hok
          unfold notMine at hnm
          unfold L154a boxV
          repeat' (first|((first|refine goA rfl fun K hK=>?_|refine goB rfl fun K hK=>?_|refine goC rfl rfl fun K hK=>?_|refine goD rfl rfl fun K hK=>?_);simp (dsimp:=false) only [↓gq,↓stepP,↓stepG,go_sem,hgx,c1,w1,hll,hnm])|refine Pwp.seq ?_|refine Pwp.block ?_|(refine Pwp.exit ?_;simp only [thenS,blockS,if_true,if_false,reduceIte,Nat.reduceEqDiff,Nat.add_one_ne_zero,reduceCtorEq])|(refine Pwp.skip ?_;simp only [thenS,blockS])|(refine Pwp.cond rfl True.intro (fun h=>?_) (fun h=>?_)<;>(try (cases h;done))<;>(try simp only [h]))|refine Pwp.ret ?_|(refine hK _ ?_;clear hK K)|(refine hK _ _ rfl ?_;clear hK K)|refine CallG.off ?_|with_reducible refine Or.inl ?_|simp only [thenS,blockS]|with_reducible refine And.intro ?_ ?_|with_reducible exact True.intro|simp (dsimp:=false) only [↓gq,↓stepP,↓stepG,go_sem,hgx,c1,w1,hll,hnm])
          all_goals (try (first|(intro hg;simp [hg];done)|exact of_decide_eq_true rfl|(cases h;done)))
          all_goals (try (intro hg; simp only [hg, Bool.not_false, Bool.not_true, Bool.and_self, Bool.true_and, Bool.and_true, true_and, and_self, imp_self, implies_true]; done))
          exact ⟨_, Sub.view V0 (by simp [L154a]) rfl (by simp [L154a,boxV]) (by simp [L154a,boxV]), hok', rfl⟩
      · rintro s ⟨hok, rfl⟩
        have c1 := dge (Nat.le_refl m.ls.length)
        rw [List.take_length] at hok
        have ha : m.ls.any (notMine g) = false := by
          rw [List.any_eq_false]
          intro x hx h
          rw [hok x hx] at h; cases h
        rw [if_neg (by rw [ha]; simp)]
        cases hfi : (fitV n none m.ls != 0) with
        | true =>
          rw [if_pos rfl, e1]
          generalize fitV n none m.ls = e at *
          unfold dchD
          unfold L154a boxV
          repeat' (first|((first|refine goA rfl fun K hK=>?_|refine goB rfl fun K hK=>?_|refine goC rfl rfl fun K hK=>?_|refine goD rfl rfl fun K hK=>?_);simp (dsimp:=false) only [↓gq,↓stepP,↓stepG,go_sem,idsL_d,c1,hll,hfi])|refine Pwp.seq ?_|refine Pwp.block ?_|(refine Pwp.exit ?_;simp only [thenS,blockS,if_true,if_false,reduceIte,Nat.reduceEqDiff,Nat.add_one_ne_zero,reduceCtorEq])|(refine Pwp.skip ?_;simp only [thenS,blockS])|(refine Pwp.cond rfl True.intro (fun h=>?_) (fun h=>?_)<;>(try (cases h;done))<;>(try simp only [h]))|refine Pwp.ret ?_|(refine hK _ ?_;clear hK K)|(refine hK _ _ rfl ?_;clear hK K)|(refine CallK.toD (ds:=[I64 n, .slc 4 (linesD m.ls)]) rfl (r83) rfl ?_)|refine CallG.off ?_|with_reducible refine Or.inl ?_|simp only [thenS,blockS]|with_reducible refine And.intro ?_ ?_|with_reducible exact True.intro|simp (dsimp:=false) only [↓gq,↓stepP,↓stepG,go_sem,idsL_d,c1,hll,hfi])
          all_goals (try (first|(intro hg;simp [hg];done)|exact of_decide_eq_true rfl|(cases h;done)))
          (refine Fin.data (.inr rfl) (by simp (dsimp:=false) only [↓gq,↓stepP,↓stepG,go_sem,resL]; rfl) (by simp only [and_self]) (by simp (dsimp:=false) only [↓gq,↓stepP,↓stepG,go_sem,resP,Nat.le_refl,List.take_length]; try rfl) ?_)
          simp [sentsD]
        | false =>
          rw [if_neg (by simp)]
          have hfit : fitV n none m.ls = 0 := by simpa using hfi
          have hst1 : d.st = 1 := by simpa using hs
          rw [hfit] at r83
          have hd1 : RunOK n { d with off := d.off.set g true } := ⟨by simp [hd.off], hd.vot, hd.ofs, hd.st, hd.fit, hd.ls, hd.ns⟩
          have hd' := hd.offB (f := g) hfit hml
          have s1 := spl (l := drC d) (k := 2 + g) (x := BD true) (by omega) (dr_set_off hd (k := g) (by omega))
          have s2 := spl (l := drC { d with off := d.off.set g true }) (k := 18 + g) (x := LD m.ls) (by rw [dr_len hd1]; omega) (dr_set_ofs hd1 (k := g) (by omega) m.ls)
          have q1 : (List.map PVal.d (drC { d with off := d.off.set g true })).length = 28 := by rw [List.length_map]; exact dr_len hd1
          have eB : ({ d with off := d.off.set g true, ofs := d.ofs.set g m.ls } : DRun) = offB d g m.ls := rfl
          have hdl' := dr_len hd'
          have m1 : (List.map PVal.d (drC (offB d g m.ls))).length = 28 := by rw [List.length_map]; exact hdl'
          have t1 : (List.map PVal.d (drC (offB d g m.ls))).take 28 = List.map PVal.d (drC (offB d g m.ls)) := List.take_of_length_le (by omega)
          have lvk : ∀ k, k < 8 → List.drop (2 + k) (List.map PVal.d (drC (offB d g m.ls))) = PVal.d (BD ((offB d g m.ls).off.getD k false)) :: List.drop (2 + k + 1) (List.map PVal.d (drC (offB d g m.ls))) := fun k hk => ldc (dr_off hd' hk)
          have lok : ∀ k, k < 8 → List.drop (18 + k) (List.map PVal.d (drC (offB d g m.ls))) = PVal.d (LD ((offB d g m.ls).ofs.getD k [])) :: List.drop (18 + k + 1) (List.map PVal.d (drC (offB d g m.ls))) := fun k hk => ldc (dr_ofs hd' hk)
          have hbl := hd'.both
          have hsum := hd'.sum
          have r87 := run87 ((offB d g m.ls).ofs.take n) (by rw [List.length_take]; omega) (by omega)
          have r81 := run81 n (bothN n (offB d g m.ls)) (by omega)
          have r209 := run209 n rs m.cycle (offB d g m.ls) hr hd' hl h1 h2
          have r156 := run156 n rs m.cycle (offB d g m.ls) false hn hr hd' hl h1 h2
          have rB := run209 n rs m.cycle (prepB n (offB d g m.ls)) hr (hd'.prepB hn) hl h1 h2
          have r208 := run208 n (prepV m.cycle (bothN n (offB d g m.ls)) (outs n (bothN n (offB d g m.ls)))) hn
          have x1 := spl (l := drC (offB d g m.ls)) (k := 1) (x := I64 2) (by omega) (dr_set_st (offB d g m.ls) 2)
          have hx1 := hd'.state (s := 2) (by simp)
          have x2 := spl (l := drC { offB d g m.ls with st := 2 }) (k := 26) (x := LD (bothN n (offB d g m.ls))) (by rw [dr_len hx1]; omega) (dr_set_ls hx1 _)
          have hx2 : RunOK n { offB d g m.ls with st := 2, ls := bothN n (offB d g m.ls) } := ⟨hx1.off, hx1.vot, hx1.ofs, hx1.st, hx1.fit, by simp only; omega, hx1.ns⟩
          have x3 := spl (l := drC { offB d g m.ls with st := 2, ls := bothN n (offB d g m.ls) }) (k := 27) (x := .slc 1 ((outs n (bothN n (offB d g m.ls))).map I64)) (by rw [dr_len hx2]; omega) (dr_set_ns hx2 _)
          have eP : ({ offB d g m.ls with st := 2, ls := bothN n (offB d g m.ls), ns := outs n (bothN n (offB d g m.ls)) } : DRun) = prepB n (offB d g m.ls) := rfl
          have y1 : (List.map PVal.d (drC { offB d g m.ls with st := 2 })).length = 28 := by rw [List.length_map]; exact dr_len hx1
          have y2 : (List.map PVal.d (drC { offB d g m.ls with st := 2, ls := bothN n (offB d g m.ls) })).length = 28 := by rw [List.length_map]; exact dr_len hx2
          have y3 : (List.map PVal.d (drC (prepB n (offB d g m.ls)))).length = 28 := by rw [List.length_map]; exact dr_len (hd'.prepB hn)
          have y4 : (List.map PVal.d (drC (prepB n (offB d g m.ls)))).take 28 = List.map PVal.d (drC (prepB n (offB d g m.ls))) := List.take_of_length_le (by omega)
          have hbr : bothL ((offB d g m.ls).ofs.take n) = bothN n (offB d g m.ls) := rfl
          rw [hbr] at r87
          have hol := hd'.ofs
          have hlb := lines_len (bothN n (offB d g m.ls))
          rw [e1] at r156
          rw [eB] at s2
          rw [eP] at x3
          unfold badB
          have hnv : netsE n (bothN n (offB d g m.ls)) = 0 → netsV n (bothN n (offB d g m.ls)) = outs n (bothN n (offB d g m.ls)) := fun h => by unfold netsV; rw [if_pos h, Int.toNat_natCast]
          unfold netsD at r81
          generalize hA4 : allV n (prepV m.cycle (bothN n (offB d g m.ls)) (outs n (bothN n (offB d g m.ls)))) = A4 at *
          unfold VMsg.msg prepV Msg.d Msg.cells at r208
          simp only at r208
          generalize drC { offB d g m.ls with st := 2, ls := bothN n (offB d g m.ls) } = z2 at *
          generalize drC { offB d g m.ls with st := 2 } = z1 at *
          generalize drC (prepB n (offB d g m.ls)) = z3 at *
          generalize cEnd n rs m.cycle (offB d g m.ls) false = E1 at *
          generalize cPut rs m.cycle (prepB n (offB d g m.ls)) = rs2 at *
          generalize drC { d with off := d.off.set g true } = z0 at *
          generalize hbs : bothN n (offB d g m.ls) = bs at *
          generalize hoB : offB d g m.ls = d' at *
          unfold dchD at r209 r156 rB
          unfold L154a boxV
          repeat' (first|((first|refine goA rfl fun K hK=>?_|refine goB rfl fun K hK=>?_|refine goC rfl rfl fun K hK=>?_|refine goD rfl rfl fun K hK=>?_);simp (dsimp:=false) only [↓gq,↓stepP,↓stepG,go_sem,idsL_d,c1,hll,Nat.mul_one,pg,m0,q1,s1,s2,m1,t1,bne_self_eq_false])|refine Pwp.seq ?_|refine Pwp.block ?_|(refine Pwp.exit ?_;simp only [thenS,blockS,if_true,if_false,reduceIte,Nat.reduceEqDiff,Nat.add_one_ne_zero,reduceCtorEq])|(refine Pwp.skip ?_;simp only [thenS,blockS])|(refine Pwp.cond rfl True.intro (fun h=>?_) (fun h=>?_)<;>(try (cases h;done))<;>(try simp only [h]))|refine Pwp.ret ?_|(refine hK _ ?_;clear hK K)|(refine hK _ _ rfl ?_;clear hK K)|(refine CallK.toD (ds:=[I64 n, .slc 4 (linesD m.ls)]) rfl (r83) rfl ?_)|refine CallG.off ?_|with_reducible refine Or.inl ?_|simp only [thenS,blockS]|with_reducible refine And.intro ?_ ?_|with_reducible exact True.intro|simp (dsimp:=false) only [↓gq,↓stepP,↓stepG,go_sem,idsL_d,c1,hll,Nat.mul_one,pg,m0,q1,s1,s2,m1,t1,bne_self_eq_false])
          all_goals (try (first|(intro hg;simp [hg];done)|exact of_decide_eq_true rfl|(cases h;done)))
          all_goals (try (first | omega | exact ⟨by omega, by omega⟩))
          refine Pwp.rangeI n (fun i s => (∀ k, k < i → d'.off.getD k false = true) ∧ s = L154b n rs d' m i) (s0 := L154b n rs d' m 0) (Sub.view (VN 60) (by simp [L154b]) rfl (by simp [L154b,boxV,offersD]) (by simp [L154b,boxV,offersD])) ⟨by omega, rfl⟩ ?_ ?_
          · rintro i s hi ⟨hok, rfl⟩
            have c1 := dlt hi
            have w1 := wrap_succ (i := i) (by omega)
            have lvi := lvk i (by omega)
            have loi := lok i (by omega)
            have pi : (0 : Int) ≤ (i : Int) := by omega
            have hoi := offers_take (ofs := d'.ofs) (i := i) (by omega)
            have hon : (offersD (d'.ofs.take i)).length = i := by rw [offers_len, List.length_take]; omega
            have hot : (offersD (d'.ofs.take i)).take i = offersD (d'.ofs.take i) := List.take_of_length_le (by omega)
            cases hoff : d'.off.getD i false with
            | false =>
              have hno : okB d'.off n = false := by
                unfold okB
                rw [List.all_eq_false]
                exact ⟨i, List.mem_range.2 hi, by rw [hoff]; simp⟩
              rw [if_pos hno, e1]
              rw [hoff] at lvi
              unfold dchD
              unfold L154b boxV
              repeat' (first|((first|refine goA rfl fun K hK=>?_|refine goB rfl fun K hK=>?_|refine goC rfl rfl fun K hK=>?_|refine goD rfl rfl fun K hK=>?_);simp (dsimp:=false) only [↓gq,↓stepP,↓stepG,go_sem,idsL_d,c1,w1,lvi,Nat.mul_one,pi,m1,t1])|refine Pwp.seq ?_|refine Pwp.block ?_|(refine Pwp.exit ?_;simp only [thenS,blockS,if_true,if_false,reduceIte,Nat.reduceEqDiff,Nat.add_one_ne_zero,reduceCtorEq])|(refine Pwp.skip ?_;simp only [thenS,blockS])|(refine Pwp.cond rfl True.intro (fun h=>?_) (fun h=>?_)<;>(try (cases h;done))<;>(try simp only [h]))|refine Pwp.ret ?_|(refine hK _ ?_;clear hK K)|(refine hK _ _ rfl ?_;clear hK K)|(refine CallK.give (ds:=[.agg [I64 n, .slc 28 (drunsC rs)], I64 m.cycle, .agg (drC d')]) (by simp [toDL, PVal.toD, htl]) r209 (by simp) ?_)|(refine hK _ _ (by simp [idsL_d, idsL, PVal.ids, St.ev, find, Op.operands, Call.operands, PVal.strip] <;> rfl) ?_)|refine CallG.off ?_|with_reducible refine Or.inl ?_|simp only [thenS,blockS]|with_reducible refine And.intro ?_ ?_|with_reducible exact True.intro|simp (dsimp:=false) only [↓gq,↓stepP,↓stepG,go_sem,idsL_d,c1,w1,lvi,Nat.mul_one,pi,m1,t1])
              all_goals (try (first|(intro hg;simp [hg];done)|exact of_decide_eq_true rfl|(cases h;done)))
              all_goals (try (first | omega | exact ⟨by omega, by omega⟩))
              (refine Fin.data (.inr rfl) (by simp (dsimp:=false) only [↓gq,↓stepP,↓stepG,go_sem,resL]; rfl) (by simp only [and_self]) (by simp (dsimp:=false) only [↓gq,↓stepP,↓stepG,go_sem,resP,Nat.le_refl,List.take_length]; try rfl) ?_)
              simp [sentsD]
            | true =>
              rw [hoff] at lvi
              unfold L154b boxV
              repeat' (first|((first|refine goA rfl fun K hK=>?_|refine goB rfl fun K hK=>?_|refine goC rfl rfl fun K hK=>?_|refine goD rfl rfl fun K hK=>?_);simp (dsimp:=false) only [↓gq,↓stepP,↓stepG,go_sem,c1,w1,lvi,loi,Nat.mul_one,pi,m1,t1,hon,hot])|refine Pwp.seq ?_|refine Pwp.block ?_|(refine Pwp.exit ?_;simp only [thenS,blockS,if_true,if_false,reduceIte,Nat.reduceEqDiff,Nat.add_one_ne_zero,reduceCtorEq])|(refine Pwp.skip ?_;simp only [thenS,blockS])|(refine Pwp.cond rfl True.intro (fun h=>?_) (fun h=>?_)<;>(try (cases h;done))<;>(try simp only [h]))|refine Pwp.ret ?_|(refine hK _ ?_;clear hK K)|(refine hK _ _ rfl ?_;clear hK K)|refine CallG.off ?_|with_reducible refine Or.inl ?_|simp only [thenS,blockS]|with_reducible refine And.intro ?_ ?_|with_reducible exact True.intro|simp (dsimp:=false) only [↓gq,↓stepP,↓stepG,go_sem,c1,w1,lvi,loi,Nat.mul_one,pi,m1,t1,hon,hot])
              all_goals (try (first|(intro hg;simp [hg];done)|exact of_decide_eq_true rfl|(cases h;done)))
              all_goals (try (first | omega | exact ⟨by omega, by omega⟩ | (simp [maxLen]; omega) | (simp [hon]; done)))
              refine ⟨_, Sub.view (VR 60 1) (by simp [L154b]) rfl (by simp [L154b,boxV,hoi]) (by simp [L154b,boxV,hoi]), fun k hk => ?_, rfl⟩
              rcases Nat.lt_or_ge k i with h | h
              · exact hok k h
              · obtain rfl : k = i := by omega
                exact hoff
          · rintro s ⟨hok, rfl⟩
            have c1 := dge (Nat.le_refl n)
            have hyo : okB d'.off n = true := by
              unfold okB
              rw [List.all_eq_true]
              exact fun k hk => hok k (List.mem_range.1 hk)
            have hon : (offersD (d'.ofs.take n)).length = n := by rw [offers_len, List.length_take]; omega
            have hot : (offersD (d'.ofs.take n)).take n = offersD (d'.ofs.take n) := List.take_of_length_le (by omega)
            rw [if_neg (by rw [hyo]; simp)]
            cases hbad : (netsE n bs != 0 || decide (1024 < (bs.length : Int))) with
            | true =>
              rw [if_pos rfl, e1]
              generalize sentsD E1.o = Y at *
              generalize E1.rs = X at *
              generalize E1.e = Z at *
              generalize netsE n bs = ne at *
              generalize (netsV n bs).map I64 = nv at *
              unfold dchD
              unfold L154b boxV
              repeat' (first|((first|refine goA rfl fun K hK=>?_|refine goB rfl fun K hK=>?_|refine goC rfl rfl fun K hK=>?_|refine goD rfl rfl fun K hK=>?_);simp (dsimp:=false) only [↓gq,↓stepP,↓stepG,go_sem,idsL_d,c1,hlb,hbad,m1,t1])|refine Pwp.seq ?_|refine Pwp.block ?_|(refine Pwp.exit ?_;simp only [thenS,blockS,if_true,if_false,reduceIte,Nat.reduceEqDiff,Nat.add_one_ne_zero,reduceCtorEq])|(refine Pwp.skip ?_;simp only [thenS,blockS])|(refine Pwp.cond rfl True.intro (fun h=>?_) (fun h=>?_)<;>(try (cases h;done))<;>(try simp only [h]))|refine Pwp.ret ?_|(refine hK _ ?_;clear hK K)|(refine hK _ _ rfl ?_;clear hK K)|(refine CallK.give (ds:=[.slc 1 (offersD (d'.ofs.take n))]) (by simp [toDL, PVal.toD, find, hon, hot]) r87 (by simp) ?_)|(refine CallK.give (ds:=[I64 n, .slc 4 (linesD bs)]) rfl r81 (by simp) ?_)|(refine CallK.give (ds:=[.agg [I64 n, .slc 28 (drunsC rs)], I64 m.cycle, .agg (drC d'), .v (.bool false)]) (by simp [toDL, PVal.toD, htl]) r156 (by simp) ?_)|(refine hK _ _ (by simp [idsL_d, idsL, PVal.ids, St.ev, find, Op.operands, Call.operands, PVal.strip] <;> rfl) ?_)|refine CallG.off ?_|with_reducible refine Or.inl ?_|simp only [thenS,blockS]|with_reducible refine And.intro ?_ ?_|with_reducible exact True.intro|simp (dsimp:=false) only [↓gq,↓stepP,↓stepG,go_sem,idsL_d,c1,hlb,hbad,m1,t1])
              all_goals (try (first|(intro hg;simp [hg];done)|exact of_decide_eq_true rfl|(cases h;done)))
              all_goals (try (intro hg; simp only [hg, Bool.not_false, Bool.not_true, Bool.and_self, Bool.true_and, Bool.and_true, true_and, and_self, imp_self, implies_true]; done))
              (refine Fin.data (.inr rfl) (by simp (dsimp:=false) only [↓gq,↓stepP,↓stepG,go_sem,resL]; rfl) (by simp only [and_self]) (by simp (dsimp:=false) only [↓gq,↓stepP,↓stepG,go_sem,resP,Nat.le_refl,List.take_length]; try rfl) ?_)
              exact subD_refl _
            | false =>
              rw [if_neg (by simp), e1]
              have hbad2 := hbad
              rw [Bool.or_eq_false_iff, bne_eq_false_iff_eq] at hbad2
              rw [hnv hbad2.1, hbad2.1] at r81
              rw [hbad2.1] at hbad
              generalize sentsD A4 = Y at *
              have hbad3 := hbad2.2
              generalize (outs n bs).map I64 = nv at *
              unfold dchD
              unfold L154b boxV
              repeat' (first|((first|refine goA rfl fun K hK=>?_|refine goB rfl fun K hK=>?_|refine goC rfl rfl fun K hK=>?_|refine goD rfl rfl fun K hK=>?_);simp (dsimp:=false) only [↓gq,↓stepP,↓stepG,go_sem,idsL_d,c1,hlb,hbad3,m1,t1,x1,x2,x3,y1,y2,y3,y4])|refine Pwp.seq ?_|refine Pwp.block ?_|(refine Pwp.exit ?_;simp only [thenS,blockS,if_true,if_false,reduceIte,Nat.reduceEqDiff,Nat.add_one_ne_zero,reduceCtorEq])|(refine Pwp.skip ?_;simp only [thenS,blockS])|(refine Pwp.cond rfl True.intro (fun h=>?_) (fun h=>?_)<;>(try (cases h;done))<;>(try simp only [h]))|refine Pwp.ret ?_|(refine hK _ ?_;clear hK K)|(refine hK _ _ rfl ?_;clear hK K)|(refine CallK.give (ds:=[.slc 1 (offersD (d'.ofs.take n))]) (by simp [toDL, PVal.toD, find, hon, hot]) r87 (by simp) ?_)|(refine CallK.give (ds:=[I64 n, .slc 4 (linesD bs)]) rfl r81 (by simp) ?_)|(refine CallK.give (ds:=[.agg [I64 n, .slc 28 (drunsC rs)], I64 m.cycle, .agg z3]) (by simp [toDL, PVal.toD, htl]) rB (by simp) ?_)|(refine CallK.give (ds:=[I64 n, .agg [I64 12, I64 0, I64 0, I64 0, I64 0, I64 0, I64 m.cycle, I64 0, .v (.bool false), .slc 4 (linesD bs), .slc 1 nv]]) rfl r208 (by simp) ?_)|(refine hK _ _ (by simp [idsL_d, idsL, PVal.ids, St.ev, find, Op.operands, Call.operands, PVal.strip] <;> rfl) ?_)|refine CallG.off ?_|with_reducible refine Or.inl ?_|simp only [thenS,blockS]|with_reducible refine And.intro ?_ ?_|with_reducible exact True.intro|simp (dsimp:=false) only [↓gq,↓stepP,↓stepG,go_sem,idsL_d,c1,hlb,hbad3,m1,t1,x1,x2,x3,y1,y2,y3,y4])
              all_goals (try (first|(intro hg;simp [hg];done)|exact of_decide_eq_true rfl|(cases h;done)))
              all_goals (try (intro hg; simp only [hg, Bool.not_false, Bool.not_true, Bool.and_self, Bool.true_and, Bool.and_true, true_and, and_self, imp_self, implies_true]; done))
              all_goals (try (first | omega | exact ⟨by omega, by omega⟩))
              (refine Fin.data (.inr rfl) (by simp (dsimp:=false) only [↓gq,↓stepP,↓stepG,go_sem,resL]; rfl) (by simp only [and_self]) (by simp (dsimp:=false) only [↓gq,↓stepP,↓stepG,go_sem,resP,Nat.le_refl,List.take_length]; try rfl) ?_)
              exact subD_refl _
end Go.Proofs.Ytdodgbhodkcckaa.Pv
end
section
set_option linter.unusedVariables false
set_option linter.unusedSimpArgs false
set_option autoImplicit false
set_option maxRecDepth 100000
namespace Go.Proofs.Ytdodgbhodkcckaa.Pv
open Go Go.RowKit
theorem map_one (d : DRun) : (List.map PVal.d (drC d)).all PVal.one = true := by rw [List.all_map]; exact dr_one d
set_option maxHeartbeats 16000000 in
theorem run92o (n : Nat) (rs : List DRun) (m : VMsg) (f : Int) (hn : n ≤ 8) (hr : RunsOK n rs) (hl : rs.length ≤ 10000) (hml : m.ls.length ≤ 100) (h1 : (m.kind == 5) = false) (h2 : (m.kind == 16) = false) (h3 : (m.kind == 11) = false) (h4 : (m.kind == 13) = false) (h5 : (m.kind == 15) = false) : Runs Try.prog 92 [.d (dchD n rs), .d m.msg.d, pint .i64 f] [] (.d (dOutD n (chiefR n rs m f))) [] := by
  have e1 : ∀ r : DOut, dOutD n r = .tup [dchD n r.rs, .slc 12 (sentsD r.o), I64 r.e] := fun _ => rfl
  have hlen := druns_len rs
  have hb : kindBad m f = true := by unfold kindBad clientV nodeV; simp [h1, h2, h3, h4, h5]
  unfold chiefR
  rw [if_pos hb, e1]
  unfold dchD VMsg.msg Msg.d Msg.cells
  refine Runs.of (kit Try.prog) Try.func92 rfl rfl (by rw [Try.ntmps92]; exact of_decide_eq_true rfl) ?_; rw [Try.ntmps92, Try.results92]
  repeat' (first|((first|refine goA rfl fun K hK=>?_|refine goB rfl fun K hK=>?_|refine goC rfl rfl fun K hK=>?_|refine goD rfl rfl fun K hK=>?_);simp (dsimp:=false) only [↓gq,↓stepP,↓stepG,go_sem,map_one,idsL_d,h1,h2,h3,h4,h5])|refine Pwp.seq ?_|refine Pwp.block ?_|(refine Pwp.exit ?_;simp only [thenS,blockS,if_true,if_false,reduceIte,Nat.reduceEqDiff,Nat.add_one_ne_zero,reduceCtorEq])|(refine Pwp.skip ?_;simp only [thenS,blockS])|(refine Pwp.cond rfl True.intro (fun h=>?_) (fun h=>?_)<;>(try (cases h;done))<;>(try simp only [h]))|refine Pwp.ret ?_|(refine hK _ ?_;clear hK K)|(refine hK _ _ rfl ?_;clear hK K)|refine CallG.off ?_|with_reducible refine Or.inl ?_|simp only [thenS,blockS]|with_reducible refine And.intro ?_ ?_|with_reducible exact True.intro|simp (dsimp:=false) only [↓gq,↓stepP,↓stepG,go_sem,map_one,idsL_d,h1,h2,h3,h4,h5])
  all_goals (try (first|(intro hg;simp [hg];done)|exact of_decide_eq_true rfl|(cases h;done)))
  all_goals (try (intro hg; simp only [hg, Bool.not_false, Bool.not_true, Bool.and_self, Bool.true_and, Bool.and_true, true_and, and_self, imp_self, implies_true]; done))
  (refine Fin.data (.inr rfl) (by simp (dsimp:=false) only [↓gq,↓stepP,↓stepG,go_sem,resL]; rfl) (by simp only [and_self]) (by simp (dsimp:=false) only [↓gq,↓stepP,↓stepG,go_sem,resP,Nat.le_refl,List.take_length]; try rfl) ?_)
  simp [sentsD]
set_option maxHeartbeats 16000000 in
theorem run92w5 (n : Nat) (rs : List DRun) (m : VMsg) (f : Int) (hn : n ≤ 8) (hr : RunsOK n rs) (hl : rs.length ≤ 10000) (hml : m.ls.length ≤ 100) (hk : m.kind = 5) (hf : (f == -1) = false) : Runs Try.prog 92 [.d (dchD n rs), .d m.msg.d, pint .i64 f] [] (.d (dOutD n (chiefR n rs m f))) [] := by
  have e1 : ∀ r : DOut, dOutD n r = .tup [dchD n r.rs, .slc 12 (sentsD r.o), I64 r.e] := fun _ => rfl
  have hlen := druns_len rs
  have hb : kindBad m f = true := by unfold kindBad clientV nodeV; rw [hk, hf]; rfl
  unfold chiefR
  rw [if_pos hb, e1]
  unfold dchD VMsg.msg Msg.d Msg.cells
  refine Runs.of (kit Try.prog) Try.func92 rfl rfl (by rw [Try.ntmps92]; exact of_decide_eq_true rfl) ?_; rw [Try.ntmps92, Try.results92]
  repeat' (first|((first|refine goA rfl fun K hK=>?_|refine goB rfl fun K hK=>?_|refine goC rfl rfl fun K hK=>?_|refine goD rfl rfl fun K hK=>?_);simp (dsimp:=false) only [↓gq,↓stepP,↓stepG,go_sem,map_one,idsL_d,hk,hf])|refine Pwp.seq ?_|refine Pwp.block ?_|(refine Pwp.exit ?_;simp only [thenS,blockS,if_true,if_false,reduceIte,Nat.reduceEqDiff,Nat.add_one_ne_zero,reduceCtorEq])|(refine Pwp.skip ?_;simp only [thenS,blockS])|(refine Pwp.cond rfl True.intro (fun h=>?_) (fun h=>?_)<;>(try (cases h;done))<;>(try simp only [h]))|refine Pwp.ret ?_|(refine hK _ ?_;clear hK K)|(refine hK _ _ rfl ?_;clear hK K)|refine CallG.off ?_|with_reducible refine Or.inl ?_|simp only [thenS,blockS]|with_reducible refine And.intro ?_ ?_|with_reducible exact True.intro|simp (dsimp:=false) only [↓gq,↓stepP,↓stepG,go_sem,map_one,idsL_d,hk,hf])
  all_goals (try (first|(intro hg;simp [hg];done)|exact of_decide_eq_true rfl|(cases h;done)))
  all_goals (try (intro hg; simp only [hg, Bool.not_false, Bool.not_true, Bool.and_self, Bool.true_and, Bool.and_true, true_and, and_self, imp_self, implies_true]; done))
  (refine Fin.data (.inr rfl) (by simp (dsimp:=false) only [↓gq,↓stepP,↓stepG,go_sem,resL]; rfl) (by simp only [and_self]) (by simp (dsimp:=false) only [↓gq,↓stepP,↓stepG,go_sem,resP,Nat.le_refl,List.take_length]; try rfl) ?_)
  simp [sentsD]
set_option maxHeartbeats 16000000 in
theorem run92w16 (n : Nat) (rs : List DRun) (m : VMsg) (f : Int) (hn : n ≤ 8) (hr : RunsOK n rs) (hl : rs.length ≤ 10000) (hml : m.ls.length ≤ 100) (hk : m.kind = 16) (hf : (f == -1) = false) : Runs Try.prog 92 [.d (dchD n rs), .d m.msg.d, pint .i64 f] [] (.d (dOutD n (chiefR n rs m f))) [] := by
  have e1 : ∀ r : DOut, dOutD n r = .tup [dchD n r.rs, .slc 12 (sentsD r.o), I64 r.e] := fun _ => rfl
  have hlen := druns_len rs
  have hb : kindBad m f = true := by unfold kindBad clientV nodeV; rw [hk, hf]; rfl
  unfold chiefR
  rw [if_pos hb, e1]
  unfold dchD VMsg.msg Msg.d Msg.cells
  refine Runs.of (kit Try.prog) Try.func92 rfl rfl (by rw [Try.ntmps92]; exact of_decide_eq_true rfl) ?_; rw [Try.ntmps92, Try.results92]
  repeat' (first|((first|refine goA rfl fun K hK=>?_|refine goB rfl fun K hK=>?_|refine goC rfl rfl fun K hK=>?_|refine goD rfl rfl fun K hK=>?_);simp (dsimp:=false) only [↓gq,↓stepP,↓stepG,go_sem,map_one,idsL_d,hk,hf])|refine Pwp.seq ?_|refine Pwp.block ?_|(refine Pwp.exit ?_;simp only [thenS,blockS,if_true,if_false,reduceIte,Nat.reduceEqDiff,Nat.add_one_ne_zero,reduceCtorEq])|(refine Pwp.skip ?_;simp only [thenS,blockS])|(refine Pwp.cond rfl True.intro (fun h=>?_) (fun h=>?_)<;>(try (cases h;done))<;>(try simp only [h]))|refine Pwp.ret ?_|(refine hK _ ?_;clear hK K)|(refine hK _ _ rfl ?_;clear hK K)|refine CallG.off ?_|with_reducible refine Or.inl ?_|simp only [thenS,blockS]|with_reducible refine And.intro ?_ ?_|with_reducible exact True.intro|simp (dsimp:=false) only [↓gq,↓stepP,↓stepG,go_sem,map_one,idsL_d,hk,hf])
  all_goals (try (first|(intro hg;simp [hg];done)|exact of_decide_eq_true rfl|(cases h;done)))
  all_goals (try (intro hg; simp only [hg, Bool.not_false, Bool.not_true, Bool.and_self, Bool.true_and, Bool.and_true, true_and, and_self, imp_self, implies_true]; done))
  (refine Fin.data (.inr rfl) (by simp (dsimp:=false) only [↓gq,↓stepP,↓stepG,go_sem,resL]; rfl) (by simp only [and_self]) (by simp (dsimp:=false) only [↓gq,↓stepP,↓stepG,go_sem,resP,Nat.le_refl,List.take_length]; try rfl) ?_)
  simp [sentsD]
set_option maxHeartbeats 16000000 in
theorem run92w11 (n : Nat) (rs : List DRun) (m : VMsg) (f : Int) (hn : n ≤ 8) (hr : RunsOK n rs) (hl : rs.length ≤ 10000) (hml : m.ls.length ≤ 100) (hk : m.kind = 11) (hf : (f == -1) = true) : Runs Try.prog 92 [.d (dchD n rs), .d m.msg.d, pint .i64 f] [] (.d (dOutD n (chiefR n rs m f))) [] := by
  have e1 : ∀ r : DOut, dOutD n r = .tup [dchD n r.rs, .slc 12 (sentsD r.o), I64 r.e] := fun _ => rfl
  have hlen := druns_len rs
  have hb : kindBad m f = true := by unfold kindBad clientV nodeV; rw [hk, hf]; rfl
  unfold chiefR
  rw [if_pos hb, e1]
  unfold dchD VMsg.msg Msg.d Msg.cells
  refine Runs.of (kit Try.prog) Try.func92 rfl rfl (by rw [Try.ntmps92]; exact of_decide_eq_true rfl) ?_; rw [Try.ntmps92, Try.results92]
  repeat' (first|((first|refine goA rfl fun K hK=>?_|refine goB rfl fun K hK=>?_|refine goC rfl rfl fun K hK=>?_|refine goD rfl rfl fun K hK=>?_);simp (dsimp:=false) only [↓gq,↓stepP,↓stepG,go_sem,map_one,idsL_d,hk,hf])|refine Pwp.seq ?_|refine Pwp.block ?_|(refine Pwp.exit ?_;simp only [thenS,blockS,if_true,if_false,reduceIte,Nat.reduceEqDiff,Nat.add_one_ne_zero,reduceCtorEq])|(refine Pwp.skip ?_;simp only [thenS,blockS])|(refine Pwp.cond rfl True.intro (fun h=>?_) (fun h=>?_)<;>(try (cases h;done))<;>(try simp only [h]))|refine Pwp.ret ?_|(refine hK _ ?_;clear hK K)|(refine hK _ _ rfl ?_;clear hK K)|refine CallG.off ?_|with_reducible refine Or.inl ?_|simp only [thenS,blockS]|with_reducible refine And.intro ?_ ?_|with_reducible exact True.intro|simp (dsimp:=false) only [↓gq,↓stepP,↓stepG,go_sem,map_one,idsL_d,hk,hf])
  all_goals (try (first|(intro hg;simp [hg];done)|exact of_decide_eq_true rfl|(cases h;done)))
  all_goals (try (intro hg; simp only [hg, Bool.not_false, Bool.not_true, Bool.and_self, Bool.true_and, Bool.and_true, true_and, and_self, imp_self, implies_true]; done))
  (refine Fin.data (.inr rfl) (by simp (dsimp:=false) only [↓gq,↓stepP,↓stepG,go_sem,resL]; rfl) (by simp only [and_self]) (by simp (dsimp:=false) only [↓gq,↓stepP,↓stepG,go_sem,resP,Nat.le_refl,List.take_length]; try rfl) ?_)
  simp [sentsD]
set_option maxHeartbeats 16000000 in
theorem run92w13 (n : Nat) (rs : List DRun) (m : VMsg) (f : Int) (hn : n ≤ 8) (hr : RunsOK n rs) (hl : rs.length ≤ 10000) (hml : m.ls.length ≤ 100) (hk : m.kind = 13) (hf : (f == -1) = true) : Runs Try.prog 92 [.d (dchD n rs), .d m.msg.d, pint .i64 f] [] (.d (dOutD n (chiefR n rs m f))) [] := by
  have e1 : ∀ r : DOut, dOutD n r = .tup [dchD n r.rs, .slc 12 (sentsD r.o), I64 r.e] := fun _ => rfl
  have hlen := druns_len rs
  have hb : kindBad m f = true := by unfold kindBad clientV nodeV; rw [hk, hf]; rfl
  unfold chiefR
  rw [if_pos hb, e1]
  unfold dchD VMsg.msg Msg.d Msg.cells
  refine Runs.of (kit Try.prog) Try.func92 rfl rfl (by rw [Try.ntmps92]; exact of_decide_eq_true rfl) ?_; rw [Try.ntmps92, Try.results92]
  repeat' (first|((first|refine goA rfl fun K hK=>?_|refine goB rfl fun K hK=>?_|refine goC rfl rfl fun K hK=>?_|refine goD rfl rfl fun K hK=>?_);simp (dsimp:=false) only [↓gq,↓stepP,↓stepG,go_sem,map_one,idsL_d,hk,hf])|refine Pwp.seq ?_|refine Pwp.block ?_|(refine Pwp.exit ?_;simp only [thenS,blockS,if_true,if_false,reduceIte,Nat.reduceEqDiff,Nat.add_one_ne_zero,reduceCtorEq])|(refine Pwp.skip ?_;simp only [thenS,blockS])|(refine Pwp.cond rfl True.intro (fun h=>?_) (fun h=>?_)<;>(try (cases h;done))<;>(try simp only [h]))|refine Pwp.ret ?_|(refine hK _ ?_;clear hK K)|(refine hK _ _ rfl ?_;clear hK K)|refine CallG.off ?_|with_reducible refine Or.inl ?_|simp only [thenS,blockS]|with_reducible refine And.intro ?_ ?_|with_reducible exact True.intro|simp (dsimp:=false) only [↓gq,↓stepP,↓stepG,go_sem,map_one,idsL_d,hk,hf])
  all_goals (try (first|(intro hg;simp [hg];done)|exact of_decide_eq_true rfl|(cases h;done)))
  all_goals (try (intro hg; simp only [hg, Bool.not_false, Bool.not_true, Bool.and_self, Bool.true_and, Bool.and_true, true_and, and_self, imp_self, implies_true]; done))
  (refine Fin.data (.inr rfl) (by simp (dsimp:=false) only [↓gq,↓stepP,↓stepG,go_sem,resL]; rfl) (by simp only [and_self]) (by simp (dsimp:=false) only [↓gq,↓stepP,↓stepG,go_sem,resP,Nat.le_refl,List.take_length]; try rfl) ?_)
  simp [sentsD]
set_option maxHeartbeats 16000000 in
theorem run92w15 (n : Nat) (rs : List DRun) (m : VMsg) (f : Int) (hn : n ≤ 8) (hr : RunsOK n rs) (hl : rs.length ≤ 10000) (hml : m.ls.length ≤ 100) (hk : m.kind = 15) (hf : (f == -1) = true) : Runs Try.prog 92 [.d (dchD n rs), .d m.msg.d, pint .i64 f] [] (.d (dOutD n (chiefR n rs m f))) [] := by
  have e1 : ∀ r : DOut, dOutD n r = .tup [dchD n r.rs, .slc 12 (sentsD r.o), I64 r.e] := fun _ => rfl
  have hlen := druns_len rs
  have hb : kindBad m f = true := by unfold kindBad clientV nodeV; rw [hk, hf]; rfl
  unfold chiefR
  rw [if_pos hb, e1]
  unfold dchD VMsg.msg Msg.d Msg.cells
  refine Runs.of (kit Try.prog) Try.func92 rfl rfl (by rw [Try.ntmps92]; exact of_decide_eq_true rfl) ?_; rw [Try.ntmps92, Try.results92]
  repeat' (first|((first|refine goA rfl fun K hK=>?_|refine goB rfl fun K hK=>?_|refine goC rfl rfl fun K hK=>?_|refine goD rfl rfl fun K hK=>?_);simp (dsimp:=false) only [↓gq,↓stepP,↓stepG,go_sem,map_one,idsL_d,hk,hf])|refine Pwp.seq ?_|refine Pwp.block ?_|(refine Pwp.exit ?_;simp only [thenS,blockS,if_true,if_false,reduceIte,Nat.reduceEqDiff,Nat.add_one_ne_zero,reduceCtorEq])|(refine Pwp.skip ?_;simp only [thenS,blockS])|(refine Pwp.cond rfl True.intro (fun h=>?_) (fun h=>?_)<;>(try (cases h;done))<;>(try simp only [h]))|refine Pwp.ret ?_|(refine hK _ ?_;clear hK K)|(refine hK _ _ rfl ?_;clear hK K)|refine CallG.off ?_|with_reducible refine Or.inl ?_|simp only [thenS,blockS]|with_reducible refine And.intro ?_ ?_|with_reducible exact True.intro|simp (dsimp:=false) only [↓gq,↓stepP,↓stepG,go_sem,map_one,idsL_d,hk,hf])
  all_goals (try (first|(intro hg;simp [hg];done)|exact of_decide_eq_true rfl|(cases h;done)))
  all_goals (try (intro hg; simp only [hg, Bool.not_false, Bool.not_true, Bool.and_self, Bool.true_and, Bool.and_true, true_and, and_self, imp_self, implies_true]; done))
  (refine Fin.data (.inr rfl) (by simp (dsimp:=false) only [↓gq,↓stepP,↓stepG,go_sem,resL]; rfl) (by simp only [and_self]) (by simp (dsimp:=false) only [↓gq,↓stepP,↓stepG,go_sem,resP,Nat.le_refl,List.take_length]; try rfl) ?_)
  simp [sentsD]
set_option maxHeartbeats 16000000 in
theorem run92s (n : Nat) (rs : List DRun) (m : VMsg) (f : Int) (hn : n ≤ 8) (hr : RunsOK n rs) (hl : rs.length ≤ 10000) (hml : m.ls.length ≤ 100) (hk : m.kind = 5) (hf : (f == -1) = true) : Runs Try.prog 92 [.d (dchD n rs), .d m.msg.d, pint .i64 f] [] (.d (dOutD n (chiefR n rs m f))) [] := by
  have e1 : ∀ r : DOut, dOutD n r = .tup [dchD n r.rs, .slc 12 (sentsD r.o), I64 r.e] := fun _ => rfl
  have hlen := druns_len rs
  have hb : kindBad m f = false := by unfold kindBad clientV nodeV; rw [hk, hf]; rfl
  have h5 : (m.kind == 5) = true := by rw [hk]; rfl
  have r153 := run153 n rs m hn hr hl
  unfold chiefR
  rw [if_neg (by rw [hb]; simp), if_pos h5]
  rw [e1] at r153 ⊢
  generalize cStart n rs m.currency = R at *
  unfold dchD VMsg.msg Msg.d Msg.cells at *
  rw [hk] at r153
  refine Runs.of (kit Try.prog) Try.func92 rfl rfl (by rw [Try.ntmps92]; exact of_decide_eq_true rfl) ?_; rw [Try.ntmps92, Try.results92]
  repeat' (first|((first|refine goA rfl fun K hK=>?_|refine goB rfl fun K hK=>?_|refine goC rfl rfl fun K hK=>?_|refine goD rfl rfl fun K hK=>?_);simp (dsimp:=false) only [↓gq,↓stepP,↓stepG,go_sem,map_one,idsL_d,hk,hf])|refine Pwp.seq ?_|refine Pwp.block ?_|(refine Pwp.exit ?_;simp only [thenS,blockS,if_true,if_false,reduceIte,Nat.reduceEqDiff,Nat.add_one_ne_zero,reduceCtorEq])|(refine Pwp.skip ?_;simp only [thenS,blockS])|(refine Pwp.cond rfl True.intro (fun h=>?_) (fun h=>?_)<;>(try (cases h;done))<;>(try simp only [h]))|refine Pwp.ret ?_|(refine hK _ ?_;clear hK K)|(refine hK _ _ rfl ?_;clear hK K)|(refine CallK.give (ds:=[.agg [I64 n, .slc 28 (drunsC rs)], .agg [I64 5, I64 m.seller, I64 m.number, I64 m.buyer, I64 m.currency, I64 m.round, I64 m.cycle, I64 m.amount, .v (.bool m.yes), .slc 4 (linesD m.ls), .slc 1 (m.ns.map I64)]]) rfl (r153) (by simp) ?_)|refine CallG.off ?_|with_reducible refine Or.inl ?_|simp only [thenS,blockS]|with_reducible refine And.intro ?_ ?_|with_reducible exact True.intro|simp (dsimp:=false) only [↓gq,↓stepP,↓stepG,go_sem,map_one,idsL_d,hk,hf])
  all_goals (try (first|(intro hg;simp [hg];done)|exact of_decide_eq_true rfl|(cases h;done)))
  all_goals (try (intro hg; simp only [hg, Bool.not_false, Bool.not_true, Bool.and_self, Bool.true_and, Bool.and_true, true_and, and_self, imp_self, implies_true]; done))
  (refine Fin.data (.inr rfl) (by simp (dsimp:=false) only [↓gq,↓stepP,↓stepG,go_sem,resL]; rfl) (by simp only [and_self]) (by simp (dsimp:=false) only [↓gq,↓stepP,↓stepG,go_sem,resP,Nat.le_refl,List.take_length]; try rfl) ?_)
  exact subD_refl _
set_option maxHeartbeats 16000000 in
theorem run92n11 (n : Nat) (rs : List DRun) (m : VMsg) (f : Int) (hn : n ≤ 8) (hr : RunsOK n rs) (hl : rs.length ≤ 10000) (hml : m.ls.length ≤ 100) (hk : m.kind = 11) (hf : (f == -1) = false) (hr2 : (decide (f < 0) || decide ((n : Int) ≤ f)) = true) : Runs Try.prog 92 [.d (dchD n rs), .d m.msg.d, pint .i64 f] [] (.d (dOutD n (chiefR n rs m f))) [] := by
  have e1 : ∀ r : DOut, dOutD n r = .tup [dchD n r.rs, .slc 12 (sentsD r.o), I64 r.e] := fun _ => rfl
  have hlen := druns_len rs
  have hb : kindBad m f = false := by unfold kindBad clientV nodeV; rw [hk, hf]; rfl
  have h5 : ¬ (m.kind == 5) = true := by rw [hk]; decide
  have hnv : (nodeV m && (decide (f < 0) || decide ((n : Int) ≤ f))) = true := by rw [hr2]; unfold nodeV; rw [hk]; rfl
  unfold chiefR
  rw [if_neg (by rw [hb]; simp), if_neg h5, if_pos hnv, e1]
  unfold dchD VMsg.msg Msg.d Msg.cells
  refine Runs.of (kit Try.prog) Try.func92 rfl rfl (by rw [Try.ntmps92]; exact of_decide_eq_true rfl) ?_; rw [Try.ntmps92, Try.results92]
  repeat' (first|((first|refine goA rfl fun K hK=>?_|refine goB rfl fun K hK=>?_|refine goC rfl rfl fun K hK=>?_|refine goD rfl rfl fun K hK=>?_);simp (dsimp:=false) only [↓gq,↓stepP,↓stepG,go_sem,map_one,idsL_d,hk,hf,hr2])|refine Pwp.seq ?_|refine Pwp.block ?_|(refine Pwp.exit ?_;simp only [thenS,blockS,if_true,if_false,reduceIte,Nat.reduceEqDiff,Nat.add_one_ne_zero,reduceCtorEq])|(refine Pwp.skip ?_;simp only [thenS,blockS])|(refine Pwp.cond rfl True.intro (fun h=>?_) (fun h=>?_)<;>(try (cases h;done))<;>(try simp only [h]))|refine Pwp.ret ?_|(refine hK _ ?_;clear hK K)|(refine hK _ _ rfl ?_;clear hK K)|refine CallG.off ?_|with_reducible refine Or.inl ?_|simp only [thenS,blockS]|with_reducible refine And.intro ?_ ?_|with_reducible exact True.intro|simp (dsimp:=false) only [↓gq,↓stepP,↓stepG,go_sem,map_one,idsL_d,hk,hf,hr2])
  all_goals (try (first|(intro hg;simp [hg];done)|exact of_decide_eq_true rfl|(cases h;done)))
  all_goals (try (intro hg; simp only [hg, Bool.not_false, Bool.not_true, Bool.and_self, Bool.true_and, Bool.and_true, true_and, and_self, imp_self, implies_true]; done))
  (refine Fin.data (.inr rfl) (by simp (dsimp:=false) only [↓gq,↓stepP,↓stepG,go_sem,resL]; rfl) (by simp only [and_self]) (by simp (dsimp:=false) only [↓gq,↓stepP,↓stepG,go_sem,resP,Nat.le_refl,List.take_length]; try rfl) ?_)
  simp [sentsD]
set_option maxHeartbeats 16000000 in
theorem run92n13 (n : Nat) (rs : List DRun) (m : VMsg) (f : Int) (hn : n ≤ 8) (hr : RunsOK n rs) (hl : rs.length ≤ 10000) (hml : m.ls.length ≤ 100) (hk : m.kind = 13) (hf : (f == -1) = false) (hr2 : (decide (f < 0) || decide ((n : Int) ≤ f)) = true) : Runs Try.prog 92 [.d (dchD n rs), .d m.msg.d, pint .i64 f] [] (.d (dOutD n (chiefR n rs m f))) [] := by
  have e1 : ∀ r : DOut, dOutD n r = .tup [dchD n r.rs, .slc 12 (sentsD r.o), I64 r.e] := fun _ => rfl
  have hlen := druns_len rs
  have hb : kindBad m f = false := by unfold kindBad clientV nodeV; rw [hk, hf]; rfl
  have h5 : ¬ (m.kind == 5) = true := by rw [hk]; decide
  have hnv : (nodeV m && (decide (f < 0) || decide ((n : Int) ≤ f))) = true := by rw [hr2]; unfold nodeV; rw [hk]; rfl
  unfold chiefR
  rw [if_neg (by rw [hb]; simp), if_neg h5, if_pos hnv, e1]
  unfold dchD VMsg.msg Msg.d Msg.cells
  refine Runs.of (kit Try.prog) Try.func92 rfl rfl (by rw [Try.ntmps92]; exact of_decide_eq_true rfl) ?_; rw [Try.ntmps92, Try.results92]
  repeat' (first|((first|refine goA rfl fun K hK=>?_|refine goB rfl fun K hK=>?_|refine goC rfl rfl fun K hK=>?_|refine goD rfl rfl fun K hK=>?_);simp (dsimp:=false) only [↓gq,↓stepP,↓stepG,go_sem,map_one,idsL_d,hk,hf,hr2])|refine Pwp.seq ?_|refine Pwp.block ?_|(refine Pwp.exit ?_;simp only [thenS,blockS,if_true,if_false,reduceIte,Nat.reduceEqDiff,Nat.add_one_ne_zero,reduceCtorEq])|(refine Pwp.skip ?_;simp only [thenS,blockS])|(refine Pwp.cond rfl True.intro (fun h=>?_) (fun h=>?_)<;>(try (cases h;done))<;>(try simp only [h]))|refine Pwp.ret ?_|(refine hK _ ?_;clear hK K)|(refine hK _ _ rfl ?_;clear hK K)|refine CallG.off ?_|with_reducible refine Or.inl ?_|simp only [thenS,blockS]|with_reducible refine And.intro ?_ ?_|with_reducible exact True.intro|simp (dsimp:=false) only [↓gq,↓stepP,↓stepG,go_sem,map_one,idsL_d,hk,hf,hr2])
  all_goals (try (first|(intro hg;simp [hg];done)|exact of_decide_eq_true rfl|(cases h;done)))
  all_goals (try (intro hg; simp only [hg, Bool.not_false, Bool.not_true, Bool.and_self, Bool.true_and, Bool.and_true, true_and, and_self, imp_self, implies_true]; done))
  (refine Fin.data (.inr rfl) (by simp (dsimp:=false) only [↓gq,↓stepP,↓stepG,go_sem,resL]; rfl) (by simp only [and_self]) (by simp (dsimp:=false) only [↓gq,↓stepP,↓stepG,go_sem,resP,Nat.le_refl,List.take_length]; try rfl) ?_)
  simp [sentsD]
set_option maxHeartbeats 16000000 in
theorem run92n15 (n : Nat) (rs : List DRun) (m : VMsg) (f : Int) (hn : n ≤ 8) (hr : RunsOK n rs) (hl : rs.length ≤ 10000) (hml : m.ls.length ≤ 100) (hk : m.kind = 15) (hf : (f == -1) = false) (hr2 : (decide (f < 0) || decide ((n : Int) ≤ f)) = true) : Runs Try.prog 92 [.d (dchD n rs), .d m.msg.d, pint .i64 f] [] (.d (dOutD n (chiefR n rs m f))) [] := by
  have e1 : ∀ r : DOut, dOutD n r = .tup [dchD n r.rs, .slc 12 (sentsD r.o), I64 r.e] := fun _ => rfl
  have hlen := druns_len rs
  have hb : kindBad m f = false := by unfold kindBad clientV nodeV; rw [hk, hf]; rfl
  have h5 : ¬ (m.kind == 5) = true := by rw [hk]; decide
  have hnv : (nodeV m && (decide (f < 0) || decide ((n : Int) ≤ f))) = true := by rw [hr2]; unfold nodeV; rw [hk]; rfl
  unfold chiefR
  rw [if_neg (by rw [hb]; simp), if_neg h5, if_pos hnv, e1]
  unfold dchD VMsg.msg Msg.d Msg.cells
  refine Runs.of (kit Try.prog) Try.func92 rfl rfl (by rw [Try.ntmps92]; exact of_decide_eq_true rfl) ?_; rw [Try.ntmps92, Try.results92]
  repeat' (first|((first|refine goA rfl fun K hK=>?_|refine goB rfl fun K hK=>?_|refine goC rfl rfl fun K hK=>?_|refine goD rfl rfl fun K hK=>?_);simp (dsimp:=false) only [↓gq,↓stepP,↓stepG,go_sem,map_one,idsL_d,hk,hf,hr2])|refine Pwp.seq ?_|refine Pwp.block ?_|(refine Pwp.exit ?_;simp only [thenS,blockS,if_true,if_false,reduceIte,Nat.reduceEqDiff,Nat.add_one_ne_zero,reduceCtorEq])|(refine Pwp.skip ?_;simp only [thenS,blockS])|(refine Pwp.cond rfl True.intro (fun h=>?_) (fun h=>?_)<;>(try (cases h;done))<;>(try simp only [h]))|refine Pwp.ret ?_|(refine hK _ ?_;clear hK K)|(refine hK _ _ rfl ?_;clear hK K)|refine CallG.off ?_|with_reducible refine Or.inl ?_|simp only [thenS,blockS]|with_reducible refine And.intro ?_ ?_|with_reducible exact True.intro|simp (dsimp:=false) only [↓gq,↓stepP,↓stepG,go_sem,map_one,idsL_d,hk,hf,hr2])
  all_goals (try (first|(intro hg;simp [hg];done)|exact of_decide_eq_true rfl|(cases h;done)))
  all_goals (try (intro hg; simp only [hg, Bool.not_false, Bool.not_true, Bool.and_self, Bool.true_and, Bool.and_true, true_and, and_self, imp_self, implies_true]; done))
  (refine Fin.data (.inr rfl) (by simp (dsimp:=false) only [↓gq,↓stepP,↓stepG,go_sem,resL]; rfl) (by simp only [and_self]) (by simp (dsimp:=false) only [↓gq,↓stepP,↓stepG,go_sem,resP,Nat.le_refl,List.take_length]; try rfl) ?_)
  simp [sentsD]
set_option maxHeartbeats 16000000 in
theorem run92m16 (n : Nat) (rs : List DRun) (m : VMsg) (f : Int) (hn : n ≤ 8) (hr : RunsOK n rs) (hl : rs.length ≤ 10000) (hml : m.ls.length ≤ 100) (hk : m.kind = 16) (hf : (f == -1) = true) (hc : (decide (m.cycle < 1) || decide ((rs.length : Int) < m.cycle)) = true) : Runs Try.prog 92 [.d (dchD n rs), .d m.msg.d, pint .i64 f] [] (.d (dOutD n (chiefR n rs m f))) [] := by
  have e1 : ∀ r : DOut, dOutD n r = .tup [dchD n r.rs, .slc 12 (sentsD r.o), I64 r.e] := fun _ => rfl
  have hlen := druns_len rs
  have hb : kindBad m f = false := by unfold kindBad clientV nodeV; rw [hk, hf]; rfl
  have h5 : ¬ (m.kind == 5) = true := by rw [hk]; decide
  have hnv : ¬ (nodeV m && (decide (f < 0) || decide ((n : Int) ≤ f))) = true := by unfold nodeV; rw [hk]; simp
  unfold chiefR
  rw [if_neg (by rw [hb]; simp), if_neg h5, if_neg hnv, if_pos hc, e1]
  unfold dchD VMsg.msg Msg.d Msg.cells at *
  refine Runs.of (kit Try.prog) Try.func92 rfl rfl (by rw [Try.ntmps92]; exact of_decide_eq_true rfl) ?_; rw [Try.ntmps92, Try.results92]
  repeat' (first|((first|refine goA rfl fun K hK=>?_|refine goB rfl fun K hK=>?_|refine goC rfl rfl fun K hK=>?_|refine goD rfl rfl fun K hK=>?_);simp (dsimp:=false) only [↓gq,↓stepP,↓stepG,go_sem,map_one,idsL_d,hk,hf,hlen,hc])|refine Pwp.seq ?_|refine Pwp.block ?_|(refine Pwp.exit ?_;simp only [thenS,blockS,if_true,if_false,reduceIte,Nat.reduceEqDiff,Nat.add_one_ne_zero,reduceCtorEq])|(refine Pwp.skip ?_;simp only [thenS,blockS])|(refine Pwp.cond rfl True.intro (fun h=>?_) (fun h=>?_)<;>(try (cases h;done))<;>(try simp only [h]))|refine Pwp.ret ?_|(refine hK _ ?_;clear hK K)|(refine hK _ _ rfl ?_;clear hK K)|refine CallG.off ?_|with_reducible refine Or.inl ?_|simp only [thenS,blockS]|with_reducible refine And.intro ?_ ?_|with_reducible exact True.intro|simp (dsimp:=false) only [↓gq,↓stepP,↓stepG,go_sem,map_one,idsL_d,hk,hf,hlen,hc])
  all_goals (try (first|(intro hg;simp [hg];done)|exact of_decide_eq_true rfl|(cases h;done)))
  all_goals (try (intro hg; simp only [hg, Bool.not_false, Bool.not_true, Bool.and_self, Bool.true_and, Bool.and_true, true_and, and_self, imp_self, implies_true]; done))
  (refine Fin.data (.inr rfl) (by simp (dsimp:=false) only [↓gq,↓stepP,↓stepG,go_sem,resL]; rfl) (by simp only [and_self]) (by simp (dsimp:=false) only [↓gq,↓stepP,↓stepG,go_sem,resP,Nat.le_refl,List.take_length]; try rfl) ?_)
  simp [sentsD]
set_option maxHeartbeats 16000000 in
theorem run92m11 (n : Nat) (rs : List DRun) (m : VMsg) (f : Int) (hn : n ≤ 8) (hr : RunsOK n rs) (hl : rs.length ≤ 10000) (hml : m.ls.length ≤ 100) (hk : m.kind = 11) (hf : (f == -1) = false) (hr2 : (decide (f < 0) || decide ((n : Int) ≤ f)) = false) (hc : (decide (m.cycle < 1) || decide ((rs.length : Int) < m.cycle)) = true) : Runs Try.prog 92 [.d (dchD n rs), .d m.msg.d, pint .i64 f] [] (.d (dOutD n (chiefR n rs m f))) [] := by
  have e1 : ∀ r : DOut, dOutD n r = .tup [dchD n r.rs, .slc 12 (sentsD r.o), I64 r.e] := fun _ => rfl
  have hlen := druns_len rs
  have hb : kindBad m f = false := by unfold kindBad clientV nodeV; rw [hk, hf]; rfl
  have h5 : ¬ (m.kind == 5) = true := by rw [hk]; decide
  have hnv : ¬ (nodeV m && (decide (f < 0) || decide ((n : Int) ≤ f))) = true := by rw [hr2]; simp
  unfold chiefR
  rw [if_neg (by rw [hb]; simp), if_neg h5, if_neg hnv, if_pos hc, e1]
  unfold dchD VMsg.msg Msg.d Msg.cells at *
  refine Runs.of (kit Try.prog) Try.func92 rfl rfl (by rw [Try.ntmps92]; exact of_decide_eq_true rfl) ?_; rw [Try.ntmps92, Try.results92]
  repeat' (first|((first|refine goA rfl fun K hK=>?_|refine goB rfl fun K hK=>?_|refine goC rfl rfl fun K hK=>?_|refine goD rfl rfl fun K hK=>?_);simp (dsimp:=false) only [↓gq,↓stepP,↓stepG,go_sem,map_one,idsL_d,hk,hf,hlen,hc,hr2])|refine Pwp.seq ?_|refine Pwp.block ?_|(refine Pwp.exit ?_;simp only [thenS,blockS,if_true,if_false,reduceIte,Nat.reduceEqDiff,Nat.add_one_ne_zero,reduceCtorEq])|(refine Pwp.skip ?_;simp only [thenS,blockS])|(refine Pwp.cond rfl True.intro (fun h=>?_) (fun h=>?_)<;>(try (cases h;done))<;>(try simp only [h]))|refine Pwp.ret ?_|(refine hK _ ?_;clear hK K)|(refine hK _ _ rfl ?_;clear hK K)|refine CallG.off ?_|with_reducible refine Or.inl ?_|simp only [thenS,blockS]|with_reducible refine And.intro ?_ ?_|with_reducible exact True.intro|simp (dsimp:=false) only [↓gq,↓stepP,↓stepG,go_sem,map_one,idsL_d,hk,hf,hlen,hc,hr2])
  all_goals (try (first|(intro hg;simp [hg];done)|exact of_decide_eq_true rfl|(cases h;done)))
  all_goals (try (intro hg; simp only [hg, Bool.not_false, Bool.not_true, Bool.and_self, Bool.true_and, Bool.and_true, true_and, and_self, imp_self, implies_true]; done))
  (refine Fin.data (.inr rfl) (by simp (dsimp:=false) only [↓gq,↓stepP,↓stepG,go_sem,resL]; rfl) (by simp only [and_self]) (by simp (dsimp:=false) only [↓gq,↓stepP,↓stepG,go_sem,resP,Nat.le_refl,List.take_length]; try rfl) ?_)
  simp [sentsD]
set_option maxHeartbeats 16000000 in
theorem run92m13 (n : Nat) (rs : List DRun) (m : VMsg) (f : Int) (hn : n ≤ 8) (hr : RunsOK n rs) (hl : rs.length ≤ 10000) (hml : m.ls.length ≤ 100) (hk : m.kind = 13) (hf : (f == -1) = false) (hr2 : (decide (f < 0) || decide ((n : Int) ≤ f)) = false) (hc : (decide (m.cycle < 1) || decide ((rs.length : Int) < m.cycle)) = true) : Runs Try.prog 92 [.d (dchD n rs), .d m.msg.d, pint .i64 f] [] (.d (dOutD n (chiefR n rs m f))) [] := by
  have e1 : ∀ r : DOut, dOutD n r = .tup [dchD n r.rs, .slc 12 (sentsD r.o), I64 r.e] := fun _ => rfl
  have hlen := druns_len rs
  have hb : kindBad m f = false := by unfold kindBad clientV nodeV; rw [hk, hf]; rfl
  have h5 : ¬ (m.kind == 5) = true := by rw [hk]; decide
  have hnv : ¬ (nodeV m && (decide (f < 0) || decide ((n : Int) ≤ f))) = true := by rw [hr2]; simp
  unfold chiefR
  rw [if_neg (by rw [hb]; simp), if_neg h5, if_neg hnv, if_pos hc, e1]
  unfold dchD VMsg.msg Msg.d Msg.cells at *
  refine Runs.of (kit Try.prog) Try.func92 rfl rfl (by rw [Try.ntmps92]; exact of_decide_eq_true rfl) ?_; rw [Try.ntmps92, Try.results92]
  repeat' (first|((first|refine goA rfl fun K hK=>?_|refine goB rfl fun K hK=>?_|refine goC rfl rfl fun K hK=>?_|refine goD rfl rfl fun K hK=>?_);simp (dsimp:=false) only [↓gq,↓stepP,↓stepG,go_sem,map_one,idsL_d,hk,hf,hlen,hc,hr2])|refine Pwp.seq ?_|refine Pwp.block ?_|(refine Pwp.exit ?_;simp only [thenS,blockS,if_true,if_false,reduceIte,Nat.reduceEqDiff,Nat.add_one_ne_zero,reduceCtorEq])|(refine Pwp.skip ?_;simp only [thenS,blockS])|(refine Pwp.cond rfl True.intro (fun h=>?_) (fun h=>?_)<;>(try (cases h;done))<;>(try simp only [h]))|refine Pwp.ret ?_|(refine hK _ ?_;clear hK K)|(refine hK _ _ rfl ?_;clear hK K)|refine CallG.off ?_|with_reducible refine Or.inl ?_|simp only [thenS,blockS]|with_reducible refine And.intro ?_ ?_|with_reducible exact True.intro|simp (dsimp:=false) only [↓gq,↓stepP,↓stepG,go_sem,map_one,idsL_d,hk,hf,hlen,hc,hr2])
  all_goals (try (first|(intro hg;simp [hg];done)|exact of_decide_eq_true rfl|(cases h;done)))
  all_goals (try (intro hg; simp only [hg, Bool.not_false, Bool.not_true, Bool.and_self, Bool.true_and, Bool.and_true, true_and, and_self, imp_self, implies_true]; done))
  (refine Fin.data (.inr rfl) (by simp (dsimp:=false) only [↓gq,↓stepP,↓stepG,go_sem,resL]; rfl) (by simp only [and_self]) (by simp (dsimp:=false) only [↓gq,↓stepP,↓stepG,go_sem,resP,Nat.le_refl,List.take_length]; try rfl) ?_)
  simp [sentsD]
set_option maxHeartbeats 16000000 in
theorem run92m15 (n : Nat) (rs : List DRun) (m : VMsg) (f : Int) (hn : n ≤ 8) (hr : RunsOK n rs) (hl : rs.length ≤ 10000) (hml : m.ls.length ≤ 100) (hk : m.kind = 15) (hf : (f == -1) = false) (hr2 : (decide (f < 0) || decide ((n : Int) ≤ f)) = false) (hc : (decide (m.cycle < 1) || decide ((rs.length : Int) < m.cycle)) = true) : Runs Try.prog 92 [.d (dchD n rs), .d m.msg.d, pint .i64 f] [] (.d (dOutD n (chiefR n rs m f))) [] := by
  have e1 : ∀ r : DOut, dOutD n r = .tup [dchD n r.rs, .slc 12 (sentsD r.o), I64 r.e] := fun _ => rfl
  have hlen := druns_len rs
  have hb : kindBad m f = false := by unfold kindBad clientV nodeV; rw [hk, hf]; rfl
  have h5 : ¬ (m.kind == 5) = true := by rw [hk]; decide
  have hnv : ¬ (nodeV m && (decide (f < 0) || decide ((n : Int) ≤ f))) = true := by rw [hr2]; simp
  unfold chiefR
  rw [if_neg (by rw [hb]; simp), if_neg h5, if_neg hnv, if_pos hc, e1]
  unfold dchD VMsg.msg Msg.d Msg.cells at *
  refine Runs.of (kit Try.prog) Try.func92 rfl rfl (by rw [Try.ntmps92]; exact of_decide_eq_true rfl) ?_; rw [Try.ntmps92, Try.results92]
  repeat' (first|((first|refine goA rfl fun K hK=>?_|refine goB rfl fun K hK=>?_|refine goC rfl rfl fun K hK=>?_|refine goD rfl rfl fun K hK=>?_);simp (dsimp:=false) only [↓gq,↓stepP,↓stepG,go_sem,map_one,idsL_d,hk,hf,hlen,hc,hr2])|refine Pwp.seq ?_|refine Pwp.block ?_|(refine Pwp.exit ?_;simp only [thenS,blockS,if_true,if_false,reduceIte,Nat.reduceEqDiff,Nat.add_one_ne_zero,reduceCtorEq])|(refine Pwp.skip ?_;simp only [thenS,blockS])|(refine Pwp.cond rfl True.intro (fun h=>?_) (fun h=>?_)<;>(try (cases h;done))<;>(try simp only [h]))|refine Pwp.ret ?_|(refine hK _ ?_;clear hK K)|(refine hK _ _ rfl ?_;clear hK K)|refine CallG.off ?_|with_reducible refine Or.inl ?_|simp only [thenS,blockS]|with_reducible refine And.intro ?_ ?_|with_reducible exact True.intro|simp (dsimp:=false) only [↓gq,↓stepP,↓stepG,go_sem,map_one,idsL_d,hk,hf,hlen,hc,hr2])
  all_goals (try (first|(intro hg;simp [hg];done)|exact of_decide_eq_true rfl|(cases h;done)))
  all_goals (try (intro hg; simp only [hg, Bool.not_false, Bool.not_true, Bool.and_self, Bool.true_and, Bool.and_true, true_and, and_self, imp_self, implies_true]; done))
  (refine Fin.data (.inr rfl) (by simp (dsimp:=false) only [↓gq,↓stepP,↓stepG,go_sem,resL]; rfl) (by simp only [and_self]) (by simp (dsimp:=false) only [↓gq,↓stepP,↓stepG,go_sem,resP,Nat.le_refl,List.take_length]; try rfl) ?_)
  simp [sentsD]
set_option maxHeartbeats 16000000 in
theorem run92g11 (n : Nat) (rs : List DRun) (m : VMsg) (f : Int) (hn : n ≤ 8) (hr : RunsOK n rs) (hl : rs.length ≤ 10000) (hml : m.ls.length ≤ 100) (hk : m.kind = 11) (hf : (f == -1) = false) (hr2 : (decide (f < 0) || decide ((n : Int) ≤ f)) = false) (hc : (decide (m.cycle < 1) || decide ((rs.length : Int) < m.cycle)) = false) : Runs Try.prog 92 [.d (dchD n rs), .d m.msg.d, pint .i64 f] [] (.d (dOutD n (chiefR n rs m f))) [] := by
  have e1 : ∀ r : DOut, dOutD n r = .tup [dchD n r.rs, .slc 12 (sentsD r.o), I64 r.e] := fun _ => rfl
  have hlen := druns_len rs
  have hb : kindBad m f = false := by unfold kindBad clientV nodeV; rw [hk, hf]; rfl
  have h5 : ¬ (m.kind == 5) = true := by rw [hk]; decide
  have hnv : ¬ (nodeV m && (decide (f < 0) || decide ((n : Int) ≤ f))) = true := by rw [hr2]; simp
  have hr3 := hr2
  simp only [Bool.or_eq_false_iff, decide_eq_false_iff_not] at hr3
  have hc2 := hc
  simp only [Bool.or_eq_false_iff, decide_eq_false_iff_not] at hc2
  have w1 : IntKind.i64.wrap (m.cycle - 1) = m.cycle - 1 := wrap_of (by omega) (by omega)
  have p0 : (0 : Int) ≤ m.cycle - 1 := by omega
  obtain ⟨y, hy, hm⟩ := at_lt (l := rs) (i := (m.cycle - 1).toNat) (by omega)
  have hat : atR rs m.cycle = y := by unfold atR; rw [hy]; rfl
  have hgy := druns_get hy
  have hyo := hr y hm
  have m0 : (List.map PVal.d (drC y)).length = 28 := by rw [List.length_map]; exact dr_len hyo
  have t0 : (List.map PVal.d (drC y)).take 28 = List.map PVal.d (drC y) := List.take_of_length_le (by omega)
  have htl := toDL_ds
  obtain ⟨g, rfl⟩ : ∃ g : Nat, f = (g : Int) := ⟨f.toNat, by omega⟩
  have rO := run154 n rs y m g hn hr hyo (by omega) hl (by omega) (by omega) hml
  unfold chiefR
  rw [if_neg (by rw [hb]; simp), if_neg h5, if_neg hnv, if_neg (by rw [hc]; simp), if_pos (by rw [hk]; rfl), Int.toNat_natCast, hat]
  rw [e1] at rO ⊢
  generalize cOffer n rs y m.cycle m.ls g = R at *
  unfold dchD VMsg.msg Msg.d Msg.cells at *
  rw [hk] at rO
  refine Runs.of (kit Try.prog) Try.func92 rfl rfl (by rw [Try.ntmps92]; exact of_decide_eq_true rfl) ?_; rw [Try.ntmps92, Try.results92]
  repeat' (first|((first|refine goA rfl fun K hK=>?_|refine goB rfl fun K hK=>?_|refine goC rfl rfl fun K hK=>?_|refine goD rfl rfl fun K hK=>?_);simp (dsimp:=false) only [↓gq,↓stepP,↓stepG,go_sem,map_one,idsL_d,hk,hf,hr2,hc,hlen,w1,p0,hgy,m0,t0])|refine Pwp.seq ?_|refine Pwp.block ?_|(refine Pwp.exit ?_;simp only [thenS,blockS,if_true,if_false,reduceIte,Nat.reduceEqDiff,Nat.add_one_ne_zero,reduceCtorEq])|(refine Pwp.skip ?_;simp only [thenS,blockS])|(refine Pwp.cond rfl True.intro (fun h=>?_) (fun h=>?_)<;>(try (cases h;done))<;>(try simp only [h]))|refine Pwp.ret ?_|(refine hK _ ?_;clear hK K)|(refine hK _ _ rfl ?_;clear hK K)|(refine CallK.give (ds:=[.agg [I64 n, .slc 28 (drunsC rs)], .agg (drC y), .agg [I64 11, I64 m.seller, I64 m.number, I64 m.buyer, I64 m.currency, I64 m.round, I64 m.cycle, I64 m.amount, .v (.bool m.yes), .slc 4 (linesD m.ls), .slc 1 (m.ns.map I64)], I64 g]) (by simp [toDL, PVal.toD, htl]) rO (by simp) ?_)|refine CallG.off ?_|with_reducible refine Or.inl ?_|simp only [thenS,blockS]|with_reducible refine And.intro ?_ ?_|with_reducible exact True.intro|simp (dsimp:=false) only [↓gq,↓stepP,↓stepG,go_sem,map_one,idsL_d,hk,hf,hr2,hc,hlen,w1,p0,hgy,m0,t0])
  all_goals (try (first|(intro hg;simp [hg];done)|exact of_decide_eq_true rfl|(cases h;done)))
  all_goals (try (intro hg; simp only [hg, Bool.not_false, Bool.not_true, Bool.and_self, Bool.true_and, Bool.and_true, true_and, and_self, imp_self, implies_true]; done))
  (refine Fin.data (.inr rfl) (by simp (dsimp:=false) only [↓gq,↓stepP,↓stepG,go_sem,resL]; rfl) (by simp only [and_self]) (by simp (dsimp:=false) only [↓gq,↓stepP,↓stepG,go_sem,resP,Nat.le_refl,List.take_length]; try rfl) ?_)
  exact subD_refl _
set_option maxHeartbeats 16000000 in
theorem run92g13 (n : Nat) (rs : List DRun) (m : VMsg) (f : Int) (hn : n ≤ 8) (hr : RunsOK n rs) (hl : rs.length ≤ 10000) (hml : m.ls.length ≤ 100) (hk : m.kind = 13) (hf : (f == -1) = false) (hr2 : (decide (f < 0) || decide ((n : Int) ≤ f)) = false) (hc : (decide (m.cycle < 1) || decide ((rs.length : Int) < m.cycle)) = false) : Runs Try.prog 92 [.d (dchD n rs), .d m.msg.d, pint .i64 f] [] (.d (dOutD n (chiefR n rs m f))) [] := by
  have e1 : ∀ r : DOut, dOutD n r = .tup [dchD n r.rs, .slc 12 (sentsD r.o), I64 r.e] := fun _ => rfl
  have hlen := druns_len rs
  have hb : kindBad m f = false := by unfold kindBad clientV nodeV; rw [hk, hf]; rfl
  have h5 : ¬ (m.kind == 5) = true := by rw [hk]; decide
  have hnv : ¬ (nodeV m && (decide (f < 0) || decide ((n : Int) ≤ f))) = true := by rw [hr2]; simp
  have hr3 := hr2
  simp only [Bool.or_eq_false_iff, decide_eq_false_iff_not] at hr3
  have hc2 := hc
  simp only [Bool.or_eq_false_iff, decide_eq_false_iff_not] at hc2
  have w1 : IntKind.i64.wrap (m.cycle - 1) = m.cycle - 1 := wrap_of (by omega) (by omega)
  have p0 : (0 : Int) ≤ m.cycle - 1 := by omega
  obtain ⟨y, hy, hm⟩ := at_lt (l := rs) (i := (m.cycle - 1).toNat) (by omega)
  have hat : atR rs m.cycle = y := by unfold atR; rw [hy]; rfl
  have hgy := druns_get hy
  have hyo := hr y hm
  have m0 : (List.map PVal.d (drC y)).length = 28 := by rw [List.length_map]; exact dr_len hyo
  have t0 : (List.map PVal.d (drC y)).take 28 = List.map PVal.d (drC y) := List.take_of_length_le (by omega)
  have htl := toDL_ds
  obtain ⟨g, rfl⟩ : ∃ g : Nat, f = (g : Int) := ⟨f.toNat, by omega⟩
  have rO := run155 n rs y m g hn hr hyo (by omega) hl (by omega) (by omega)
  unfold chiefR
  rw [if_neg (by rw [hb]; simp), if_neg h5, if_neg hnv, if_neg (by rw [hc]; simp), if_neg (by rw [hk]; decide), if_pos (by rw [hk]; rfl), Int.toNat_natCast, hat]
  rw [e1] at rO ⊢
  generalize cVote n rs y m.cycle m.yes g = R at *
  unfold dchD VMsg.msg Msg.d Msg.cells at *
  rw [hk] at rO
  refine Runs.of (kit Try.prog) Try.func92 rfl rfl (by rw [Try.ntmps92]; exact of_decide_eq_true rfl) ?_; rw [Try.ntmps92, Try.results92]
  repeat' (first|((first|refine goA rfl fun K hK=>?_|refine goB rfl fun K hK=>?_|refine goC rfl rfl fun K hK=>?_|refine goD rfl rfl fun K hK=>?_);simp (dsimp:=false) only [↓gq,↓stepP,↓stepG,go_sem,map_one,idsL_d,hk,hf,hr2,hc,hlen,w1,p0,hgy,m0,t0])|refine Pwp.seq ?_|refine Pwp.block ?_|(refine Pwp.exit ?_;simp only [thenS,blockS,if_true,if_false,reduceIte,Nat.reduceEqDiff,Nat.add_one_ne_zero,reduceCtorEq])|(refine Pwp.skip ?_;simp only [thenS,blockS])|(refine Pwp.cond rfl True.intro (fun h=>?_) (fun h=>?_)<;>(try (cases h;done))<;>(try simp only [h]))|refine Pwp.ret ?_|(refine hK _ ?_;clear hK K)|(refine hK _ _ rfl ?_;clear hK K)|(refine CallK.give (ds:=[.agg [I64 n, .slc 28 (drunsC rs)], .agg (drC y), .agg [I64 13, I64 m.seller, I64 m.number, I64 m.buyer, I64 m.currency, I64 m.round, I64 m.cycle, I64 m.amount, .v (.bool m.yes), .slc 4 (linesD m.ls), .slc 1 (m.ns.map I64)], I64 g]) (by simp [toDL, PVal.toD, htl]) rO (by simp) ?_)|refine CallG.off ?_|with_reducible refine Or.inl ?_|simp only [thenS,blockS]|with_reducible refine And.intro ?_ ?_|with_reducible exact True.intro|simp (dsimp:=false) only [↓gq,↓stepP,↓stepG,go_sem,map_one,idsL_d,hk,hf,hr2,hc,hlen,w1,p0,hgy,m0,t0])
  all_goals (try (first|(intro hg;simp [hg];done)|exact of_decide_eq_true rfl|(cases h;done)))
  all_goals (try (intro hg; simp only [hg, Bool.not_false, Bool.not_true, Bool.and_self, Bool.true_and, Bool.and_true, true_and, and_self, imp_self, implies_true]; done))
  (refine Fin.data (.inr rfl) (by simp (dsimp:=false) only [↓gq,↓stepP,↓stepG,go_sem,resL]; rfl) (by simp only [and_self]) (by simp (dsimp:=false) only [↓gq,↓stepP,↓stepG,go_sem,resP,Nat.le_refl,List.take_length]; try rfl) ?_)
  exact subD_refl _
set_option maxHeartbeats 16000000 in
theorem run92q16t (n : Nat) (rs : List DRun) (m : VMsg) (f : Int) (hn : n ≤ 8) (hr : RunsOK n rs) (hl : rs.length ≤ 10000) (hml : m.ls.length ≤ 100) (hk : m.kind = 16) (hf : (f == -1) = true) (hc : (decide (m.cycle < 1) || decide ((rs.length : Int) < m.cycle)) = false) (ho : decide ((atR rs m.cycle).st < 3) = true) : Runs Try.prog 92 [.d (dchD n rs), .d m.msg.d, pint .i64 f] [] (.d (dOutD n (chiefR n rs m f))) [] := by
  have e1 : ∀ r : DOut, dOutD n r = .tup [dchD n r.rs, .slc 12 (sentsD r.o), I64 r.e] := fun _ => rfl
  have hlen := druns_len rs
  have hb : kindBad m f = false := by unfold kindBad clientV nodeV; rw [hk, hf]; rfl
  have h5 : ¬ (m.kind == 5) = true := by rw [hk]; decide
  have hnv : ¬ (nodeV m && (decide (f < 0) || decide ((n : Int) ≤ f))) = true := by unfold nodeV; rw [hk]; simp
  have hc2 := hc
  simp only [Bool.or_eq_false_iff, decide_eq_false_iff_not] at hc2
  have w1 : IntKind.i64.wrap (m.cycle - 1) = m.cycle - 1 := wrap_of (by omega) (by omega)
  have p0 : (0 : Int) ≤ m.cycle - 1 := by omega
  obtain ⟨y, hy, hm⟩ := at_lt (l := rs) (i := (m.cycle - 1).toNat) (by omega)
  have hat : atR rs m.cycle = y := by unfold atR; rw [hy]; rfl
  have hgy := druns_get hy
  have hyo := hr y hm
  have m0 : (List.map PVal.d (drC y)).length = 28 := by rw [List.length_map]; exact dr_len hyo
  have t0 : (List.map PVal.d (drC y)).take 28 = List.map PVal.d (drC y) := List.take_of_length_le (by omega)
  have htl := toDL_ds
  have lst := ldc (dr_st y)
  have r156 := run156 n rs m.cycle y false hn hr hyo hl (by omega) (by omega)
  unfold chiefR
  rw [if_neg (by rw [hb]; simp), if_neg h5, if_neg hnv, if_neg (by rw [hc]; simp), if_neg (by rw [hk]; decide), if_neg (by rw [hk]; decide), ho]
  rw [hat] at ho ⊢
  rw [if_neg (by rw [hk]; decide), if_pos (by rw [hk]; rfl)]
  rw [e1] at r156 ⊢
  generalize cEnd n rs m.cycle y false = R at *
  unfold dchD VMsg.msg Msg.d Msg.cells at *
  refine Runs.of (kit Try.prog) Try.func92 rfl rfl (by rw [Try.ntmps92]; exact of_decide_eq_true rfl) ?_; rw [Try.ntmps92, Try.results92]
  repeat' (first|((first|refine goA rfl fun K hK=>?_|refine goB rfl fun K hK=>?_|refine goC rfl rfl fun K hK=>?_|refine goD rfl rfl fun K hK=>?_);simp (dsimp:=false) only [↓gq,↓stepP,↓stepG,go_sem,map_one,idsL_d,hk,hf,hc,hlen,lst,ho,w1,p0,hgy,m0,t0])|refine Pwp.seq ?_|refine Pwp.block ?_|(refine Pwp.exit ?_;simp only [thenS,blockS,if_true,if_false,reduceIte,Nat.reduceEqDiff,Nat.add_one_ne_zero,reduceCtorEq])|(refine Pwp.skip ?_;simp only [thenS,blockS])|(refine Pwp.cond rfl True.intro (fun h=>?_) (fun h=>?_)<;>(try (cases h;done))<;>(try simp only [h]))|refine Pwp.ret ?_|(refine hK _ ?_;clear hK K)|(refine hK _ _ rfl ?_;clear hK K)|(refine CallK.give (ds:=[.agg [I64 n, .slc 28 (drunsC rs)], I64 m.cycle, .agg (drC y), .v (.bool false)]) (by simp [toDL, PVal.toD, htl]) r156 (by simp) ?_)|refine CallG.off ?_|with_reducible refine Or.inl ?_|simp only [thenS,blockS]|with_reducible refine And.intro ?_ ?_|with_reducible exact True.intro|simp (dsimp:=false) only [↓gq,↓stepP,↓stepG,go_sem,map_one,idsL_d,hk,hf,hc,hlen,lst,ho,w1,p0,hgy,m0,t0])
  all_goals (try (first|(intro hg;simp [hg];done)|exact of_decide_eq_true rfl|(cases h;done)))
  all_goals (try (intro hg; simp only [hg, Bool.not_false, Bool.not_true, Bool.and_self, Bool.true_and, Bool.and_true, true_and, and_self, imp_self, implies_true]; done))
  (refine Fin.data (.inr rfl) (by simp (dsimp:=false) only [↓gq,↓stepP,↓stepG,go_sem,resL]; rfl) (by simp only [and_self]) (by simp (dsimp:=false) only [↓gq,↓stepP,↓stepG,go_sem,resP,Nat.le_refl,List.take_length]; try rfl) ?_)
  exact subD_refl _
set_option maxHeartbeats 16000000 in
theorem run92q16f (n : Nat) (rs : List DRun) (m : VMsg) (f : Int) (hn : n ≤ 8) (hr : RunsOK n rs) (hl : rs.length ≤ 10000) (hml : m.ls.length ≤ 100) (hk : m.kind = 16) (hf : (f == -1) = true) (hc : (decide (m.cycle < 1) || decide ((rs.length : Int) < m.cycle)) = false) (ho : decide ((atR rs m.cycle).st < 3) = false) : Runs Try.prog 92 [.d (dchD n rs), .d m.msg.d, pint .i64 f] [] (.d (dOutD n (chiefR n rs m f))) [] := by
  have e1 : ∀ r : DOut, dOutD n r = .tup [dchD n r.rs, .slc 12 (sentsD r.o), I64 r.e] := fun _ => rfl
  have hlen := druns_len rs
  have hb : kindBad m f = false := by unfold kindBad clientV nodeV; rw [hk, hf]; rfl
  have h5 : ¬ (m.kind == 5) = true := by rw [hk]; decide
  have hnv : ¬ (nodeV m && (decide (f < 0) || decide ((n : Int) ≤ f))) = true := by unfold nodeV; rw [hk]; simp
  have hc2 := hc
  simp only [Bool.or_eq_false_iff, decide_eq_false_iff_not] at hc2
  have w1 : IntKind.i64.wrap (m.cycle - 1) = m.cycle - 1 := wrap_of (by omega) (by omega)
  have p0 : (0 : Int) ≤ m.cycle - 1 := by omega
  obtain ⟨y, hy, hm⟩ := at_lt (l := rs) (i := (m.cycle - 1).toNat) (by omega)
  have hat : atR rs m.cycle = y := by unfold atR; rw [hy]; rfl
  have hgy := druns_get hy
  have hyo := hr y hm
  have m0 : (List.map PVal.d (drC y)).length = 28 := by rw [List.length_map]; exact dr_len hyo
  have t0 : (List.map PVal.d (drC y)).take 28 = List.map PVal.d (drC y) := List.take_of_length_le (by omega)
  have htl := toDL_ds
  have lst := ldc (dr_st y)
  unfold chiefR
  rw [if_neg (by rw [hb]; simp), if_neg h5, if_neg hnv, if_neg (by rw [hc]; simp), if_neg (by rw [hk]; decide), if_neg (by rw [hk]; decide), ho]
  rw [hat] at ho ⊢
  rw [if_pos (by rw [hk]; rfl), e1]
  unfold dchD VMsg.msg Msg.d Msg.cells at *
  refine Runs.of (kit Try.prog) Try.func92 rfl rfl (by rw [Try.ntmps92]; exact of_decide_eq_true rfl) ?_; rw [Try.ntmps92, Try.results92]
  repeat' (first|((first|refine goA rfl fun K hK=>?_|refine goB rfl fun K hK=>?_|refine goC rfl rfl fun K hK=>?_|refine goD rfl rfl fun K hK=>?_);simp (dsimp:=false) only [↓gq,↓stepP,↓stepG,go_sem,map_one,idsL_d,hk,hf,hc,hlen,lst,ho,w1,p0,hgy,m0,t0])|refine Pwp.seq ?_|refine Pwp.block ?_|(refine Pwp.exit ?_;simp only [thenS,blockS,if_true,if_false,reduceIte,Nat.reduceEqDiff,Nat.add_one_ne_zero,reduceCtorEq])|(refine Pwp.skip ?_;simp only [thenS,blockS])|(refine Pwp.cond rfl True.intro (fun h=>?_) (fun h=>?_)<;>(try (cases h;done))<;>(try simp only [h]))|refine Pwp.ret ?_|(refine hK _ ?_;clear hK K)|(refine hK _ _ rfl ?_;clear hK K)|refine CallG.off ?_|with_reducible refine Or.inl ?_|simp only [thenS,blockS]|with_reducible refine And.intro ?_ ?_|with_reducible exact True.intro|simp (dsimp:=false) only [↓gq,↓stepP,↓stepG,go_sem,map_one,idsL_d,hk,hf,hc,hlen,lst,ho,w1,p0,hgy,m0,t0])
  all_goals (try (first|(intro hg;simp [hg];done)|exact of_decide_eq_true rfl|(cases h;done)))
  all_goals (try (intro hg; simp only [hg, Bool.not_false, Bool.not_true, Bool.and_self, Bool.true_and, Bool.and_true, true_and, and_self, imp_self, implies_true]; done))
  (refine Fin.data (.inr rfl) (by simp (dsimp:=false) only [↓gq,↓stepP,↓stepG,go_sem,resL]; rfl) (by simp only [and_self]) (by simp (dsimp:=false) only [↓gq,↓stepP,↓stepG,go_sem,resP,Nat.le_refl,List.take_length]; try rfl) ?_)
  simp [sentsD]
set_option maxHeartbeats 16000000 in
theorem run92q15t (n : Nat) (rs : List DRun) (m : VMsg) (f : Int) (hn : n ≤ 8) (hr : RunsOK n rs) (hl : rs.length ≤ 10000) (hml : m.ls.length ≤ 100) (hk : m.kind = 15) (hf : (f == -1) = false) (hr2 : (decide (f < 0) || decide ((n : Int) ≤ f)) = false) (hc : (decide (m.cycle < 1) || decide ((rs.length : Int) < m.cycle)) = false) (ho : decide ((atR rs m.cycle).st < 3) = true) : Runs Try.prog 92 [.d (dchD n rs), .d m.msg.d, pint .i64 f] [] (.d (dOutD n (chiefR n rs m f))) [] := by
  have e1 : ∀ r : DOut, dOutD n r = .tup [dchD n r.rs, .slc 12 (sentsD r.o), I64 r.e] := fun _ => rfl
  have hlen := druns_len rs
  have hb : kindBad m f = false := by unfold kindBad clientV nodeV; rw [hk, hf]; rfl
  have h5 : ¬ (m.kind == 5) = true := by rw [hk]; decide
  have hnv : ¬ (nodeV m && (decide (f < 0) || decide ((n : Int) ≤ f))) = true := by rw [hr2]; simp
  have hc2 := hc
  simp only [Bool.or_eq_false_iff, decide_eq_false_iff_not] at hc2
  have w1 : IntKind.i64.wrap (m.cycle - 1) = m.cycle - 1 := wrap_of (by omega) (by omega)
  have p0 : (0 : Int) ≤ m.cycle - 1 := by omega
  obtain ⟨y, hy, hm⟩ := at_lt (l := rs) (i := (m.cycle - 1).toNat) (by omega)
  have hat : atR rs m.cycle = y := by unfold atR; rw [hy]; rfl
  have hgy := druns_get hy
  have hyo := hr y hm
  have m0 : (List.map PVal.d (drC y)).length = 28 := by rw [List.length_map]; exact dr_len hyo
  have t0 : (List.map PVal.d (drC y)).take 28 = List.map PVal.d (drC y) := List.take_of_length_le (by omega)
  have htl := toDL_ds
  have lst := ldc (dr_st y)
  unfold chiefR
  rw [if_neg (by rw [hb]; simp), if_neg h5, if_neg hnv, if_neg (by rw [hc]; simp), if_neg (by rw [hk]; decide), if_neg (by rw [hk]; decide), ho]
  rw [hat] at ho ⊢
  rw [if_pos (by rw [hk]; rfl), e1]
  unfold dchD VMsg.msg Msg.d Msg.cells at *
  refine Runs.of (kit Try.prog) Try.func92 rfl rfl (by rw [Try.ntmps92]; exact of_decide_eq_true rfl) ?_; rw [Try.ntmps92, Try.results92]
  repeat' (first|((first|refine goA rfl fun K hK=>?_|refine goB rfl fun K hK=>?_|refine goC rfl rfl fun K hK=>?_|refine goD rfl rfl fun K hK=>?_);simp (dsimp:=false) only [↓gq,↓stepP,↓stepG,go_sem,map_one,idsL_d,hk,hf,hr2,hc,hlen,lst,ho,w1,p0,hgy,m0,t0])|refine Pwp.seq ?_|refine Pwp.block ?_|(refine Pwp.exit ?_;simp only [thenS,blockS,if_true,if_false,reduceIte,Nat.reduceEqDiff,Nat.add_one_ne_zero,reduceCtorEq])|(refine Pwp.skip ?_;simp only [thenS,blockS])|(refine Pwp.cond rfl True.intro (fun h=>?_) (fun h=>?_)<;>(try (cases h;done))<;>(try simp only [h]))|refine Pwp.ret ?_|(refine hK _ ?_;clear hK K)|(refine hK _ _ rfl ?_;clear hK K)|refine CallG.off ?_|with_reducible refine Or.inl ?_|simp only [thenS,blockS]|with_reducible refine And.intro ?_ ?_|with_reducible exact True.intro|simp (dsimp:=false) only [↓gq,↓stepP,↓stepG,go_sem,map_one,idsL_d,hk,hf,hr2,hc,hlen,lst,ho,w1,p0,hgy,m0,t0])
  all_goals (try (first|(intro hg;simp [hg];done)|exact of_decide_eq_true rfl|(cases h;done)))
  all_goals (try (intro hg; simp only [hg, Bool.not_false, Bool.not_true, Bool.and_self, Bool.true_and, Bool.and_true, true_and, and_self, imp_self, implies_true]; done))
  (refine Fin.data (.inr rfl) (by simp (dsimp:=false) only [↓gq,↓stepP,↓stepG,go_sem,resL]; rfl) (by simp only [and_self]) (by simp (dsimp:=false) only [↓gq,↓stepP,↓stepG,go_sem,resP,Nat.le_refl,List.take_length]; try rfl) ?_)
  simp [sentsD]
set_option maxHeartbeats 16000000 in
theorem run92q15f (n : Nat) (rs : List DRun) (m : VMsg) (f : Int) (hn : n ≤ 8) (hr : RunsOK n rs) (hl : rs.length ≤ 10000) (hml : m.ls.length ≤ 100) (hk : m.kind = 15) (hf : (f == -1) = false) (hr2 : (decide (f < 0) || decide ((n : Int) ≤ f)) = false) (hc : (decide (m.cycle < 1) || decide ((rs.length : Int) < m.cycle)) = false) (ho : decide ((atR rs m.cycle).st < 3) = false) : Runs Try.prog 92 [.d (dchD n rs), .d m.msg.d, pint .i64 f] [] (.d (dOutD n (chiefR n rs m f))) [] := by
  have e1 : ∀ r : DOut, dOutD n r = .tup [dchD n r.rs, .slc 12 (sentsD r.o), I64 r.e] := fun _ => rfl
  have hlen := druns_len rs
  have hb : kindBad m f = false := by unfold kindBad clientV nodeV; rw [hk, hf]; rfl
  have h5 : ¬ (m.kind == 5) = true := by rw [hk]; decide
  have hnv : ¬ (nodeV m && (decide (f < 0) || decide ((n : Int) ≤ f))) = true := by rw [hr2]; simp
  have hc2 := hc
  simp only [Bool.or_eq_false_iff, decide_eq_false_iff_not] at hc2
  have w1 : IntKind.i64.wrap (m.cycle - 1) = m.cycle - 1 := wrap_of (by omega) (by omega)
  have p0 : (0 : Int) ≤ m.cycle - 1 := by omega
  obtain ⟨y, hy, hm⟩ := at_lt (l := rs) (i := (m.cycle - 1).toNat) (by omega)
  have hat : atR rs m.cycle = y := by unfold atR; rw [hy]; rfl
  have hgy := druns_get hy
  have hyo := hr y hm
  have m0 : (List.map PVal.d (drC y)).length = 28 := by rw [List.length_map]; exact dr_len hyo
  have t0 : (List.map PVal.d (drC y)).take 28 = List.map PVal.d (drC y) := List.take_of_length_le (by omega)
  have htl := toDL_ds
  have lst := ldc (dr_st y)
  unfold chiefR
  rw [if_neg (by rw [hb]; simp), if_neg h5, if_neg hnv, if_neg (by rw [hc]; simp), if_neg (by rw [hk]; decide), if_neg (by rw [hk]; decide), ho]
  rw [hat] at ho ⊢
  rw [if_neg (by rw [hk]; decide), if_neg (by rw [hk]; decide), e1]
  unfold dchD VMsg.msg Msg.d Msg.cells at *
  refine Runs.of (kit Try.prog) Try.func92 rfl rfl (by rw [Try.ntmps92]; exact of_decide_eq_true rfl) ?_; rw [Try.ntmps92, Try.results92]
  repeat' (first|((first|refine goA rfl fun K hK=>?_|refine goB rfl fun K hK=>?_|refine goC rfl rfl fun K hK=>?_|refine goD rfl rfl fun K hK=>?_);simp (dsimp:=false) only [↓gq,↓stepP,↓stepG,go_sem,map_one,idsL_d,hk,hf,hr2,hc,hlen,lst,ho,w1,p0,hgy,m0,t0])|refine Pwp.seq ?_|refine Pwp.block ?_|(refine Pwp.exit ?_;simp only [thenS,blockS,if_true,if_false,reduceIte,Nat.reduceEqDiff,Nat.add_one_ne_zero,reduceCtorEq])|(refine Pwp.skip ?_;simp only [thenS,blockS])|(refine Pwp.cond rfl True.intro (fun h=>?_) (fun h=>?_)<;>(try (cases h;done))<;>(try simp only [h]))|refine Pwp.ret ?_|(refine hK _ ?_;clear hK K)|(refine hK _ _ rfl ?_;clear hK K)|refine CallG.off ?_|with_reducible refine Or.inl ?_|simp only [thenS,blockS]|with_reducible refine And.intro ?_ ?_|with_reducible exact True.intro|simp (dsimp:=false) only [↓gq,↓stepP,↓stepG,go_sem,map_one,idsL_d,hk,hf,hr2,hc,hlen,lst,ho,w1,p0,hgy,m0,t0])
  all_goals (try (first|(intro hg;simp [hg];done)|exact of_decide_eq_true rfl|(cases h;done)))
  all_goals (try (intro hg; simp only [hg, Bool.not_false, Bool.not_true, Bool.and_self, Bool.true_and, Bool.and_true, true_and, and_self, imp_self, implies_true]; done))
  (refine Fin.data (.inr rfl) (by simp (dsimp:=false) only [↓gq,↓stepP,↓stepG,go_sem,resL]; rfl) (by simp only [and_self]) (by simp (dsimp:=false) only [↓gq,↓stepP,↓stepG,go_sem,resP,Nat.le_refl,List.take_length]; try rfl) ?_)
  simp [sentsD, sentD, saidD, decV, VMsg.msg, Msg.cells, subD, subL, subV, linesD]
theorem run92 (n : Nat) (rs : List DRun) (m : VMsg) (f : Int) (hn : n ≤ 8) (hr : RunsOK n rs) (hl : rs.length ≤ 10000) (hml : m.ls.length ≤ 100) : Runs Try.prog 92 [.d (dchD n rs), .d m.msg.d, pint .i64 f] [] (.d (dOutD n (chiefR n rs m f))) [] := by
  by_cases k5 : m.kind = 5
  · cases hf : (f == -1) with
    | false => exact run92w5 n rs m f hn hr hl hml k5 hf
    | true => exact run92s n rs m f hn hr hl hml k5 hf
  by_cases k16 : m.kind = 16
  · cases hf : (f == -1) with
    | false => exact run92w16 n rs m f hn hr hl hml k16 hf
    | true =>
      cases hc : (decide (m.cycle < 1) || decide ((rs.length : Int) < m.cycle)) with
      | true => exact run92m16 n rs m f hn hr hl hml k16 hf hc
      | false =>
        cases ho : decide ((atR rs m.cycle).st < 3) with
        | true => exact run92q16t n rs m f hn hr hl hml k16 hf hc ho
        | false => exact run92q16f n rs m f hn hr hl hml k16 hf hc ho
  by_cases k11 : m.kind = 11
  · cases hf : (f == -1) with
    | true => exact run92w11 n rs m f hn hr hl hml k11 hf
    | false =>
      cases hr2 : (decide (f < 0) || decide ((n : Int) ≤ f)) with
      | true => exact run92n11 n rs m f hn hr hl hml k11 hf hr2
      | false =>
        cases hc : (decide (m.cycle < 1) || decide ((rs.length : Int) < m.cycle)) with
        | true => exact run92m11 n rs m f hn hr hl hml k11 hf hr2 hc
        | false =>
          exact run92g11 n rs m f hn hr hl hml k11 hf hr2 hc
  by_cases k13 : m.kind = 13
  · cases hf : (f == -1) with
    | true => exact run92w13 n rs m f hn hr hl hml k13 hf
    | false =>
      cases hr2 : (decide (f < 0) || decide ((n : Int) ≤ f)) with
      | true => exact run92n13 n rs m f hn hr hl hml k13 hf hr2
      | false =>
        cases hc : (decide (m.cycle < 1) || decide ((rs.length : Int) < m.cycle)) with
        | true => exact run92m13 n rs m f hn hr hl hml k13 hf hr2 hc
        | false =>
          exact run92g13 n rs m f hn hr hl hml k13 hf hr2 hc
  by_cases k15 : m.kind = 15
  · cases hf : (f == -1) with
    | true => exact run92w15 n rs m f hn hr hl hml k15 hf
    | false =>
      cases hr2 : (decide (f < 0) || decide ((n : Int) ≤ f)) with
      | true => exact run92n15 n rs m f hn hr hl hml k15 hf hr2
      | false =>
        cases hc : (decide (m.cycle < 1) || decide ((rs.length : Int) < m.cycle)) with
        | true => exact run92m15 n rs m f hn hr hl hml k15 hf hr2 hc
        | false =>
          cases ho : decide ((atR rs m.cycle).st < 3) with
          | true => exact run92q15t n rs m f hn hr hl hml k15 hf hr2 hc ho
          | false => exact run92q15f n rs m f hn hr hl hml k15 hf hr2 hc ho
  exact run92o n rs m f hn hr hl hml (by simpa using k5) (by simpa using k16) (by simpa using k11) (by simpa using k13) (by simpa using k15)
end Go.Proofs.Ytdodgbhodkcckaa.Pv
end
section
set_option linter.unusedVariables false
set_option linter.unusedSimpArgs false
set_option autoImplicit false
set_option maxRecDepth 100000
namespace Go.Proofs.Ytdodgbhodkcckaa.Pv
open Go Go.RowKit
theorem CallG.toDS {P : Program} {fid : Nat} {g : Bool} {st : St} {qs : List PVal} {G : Prop} {ds es : List D} {x : D} {K : Eff → Prop} (hd : toDL st.heap qs = some ds) (hs : subL ds es) (hr : Runs P fid (es.map .d) [] (.d x) []) (hf : x.flat = true) (hG : g = true → G) (hK : K ⟨.gd g (.d x), [], []⟩) : CallG P fid g st qs G K :=
  ⟨es.map .d, x, fun e => ⟨(args_sub hd hs).1, fun p hp => by obtain ⟨y, _, rfl⟩ := List.mem_map.1 hp; exact ⟨y, rfl⟩, hr, hG e⟩, .inr hf, hK⟩
end Go.Proofs.Ytdodgbhodkcckaa.Pv
end
section
set_option linter.unusedVariables false
set_option linter.unusedSimpArgs false
set_option autoImplicit false
set_option maxRecDepth 100000
namespace Go.Proofs.Ytdodgbhodkcckaa.Pv
open Go Go.RowKit
def L72x (m : VMsg) (i : Nat) : St := ⟨[(5, pint .i64 i), (3, .ref 9 0), (2, .ref 8 0)], [(8, boxV m), (9, boxV m)], 312⟩
def L72y (m : VMsg) (i : Nat) : St := ⟨[(6, pint .i64 i), (3, .ref 9 0), (2, .ref 8 0)], [(8, boxV m), (9, boxV m)], 392⟩
set_option maxHeartbeats 32000000 in
theorem run72e (m : VMsg) (hl : m.ls.length ≤ 100000) (hn : m.ns.length ≤ 100000) : Runs Try.prog 72 [.d m.msg.d, .d m.msg.d] [] (pbool true) [] := by
  have hll := lines_len m.ls
  have hnl : (m.ns.map I64).length = m.ns.length := by simp
  unfold VMsg.msg Msg.d Msg.cells
  refine Runs.of (kit Try.prog) Try.func72 rfl rfl (by rw [Try.ntmps72]; exact of_decide_eq_true rfl) ?_; rw [Try.ntmps72, Try.results72]
  repeat' (first|((first|refine goA rfl fun K hK=>?_|refine goB rfl fun K hK=>?_|refine goC rfl rfl fun K hK=>?_|refine goD rfl rfl fun K hK=>?_);simp (dsimp:=false) only [↓gq,↓stepP,↓stepG,go_sem,bne_self_eq_false,beq_self_eq_true,Bool.and_self,Bool.not_true,Bool.or_self])|refine Pwp.seq ?_|refine Pwp.block ?_|(refine Pwp.exit ?_;simp only [thenS,blockS,if_true,if_false,reduceIte,Nat.reduceEqDiff,Nat.add_one_ne_zero,reduceCtorEq])|(refine Pwp.skip ?_;simp only [thenS,blockS])|(refine Pwp.cond rfl True.intro (fun h=>?_) (fun h=>?_)<;>(try (cases h;done))<;>(try simp only [h]))|refine Pwp.ret ?_|(refine hK _ ?_;clear hK K)|(refine hK _ _ rfl ?_;clear hK K)|refine CallG.off ?_|with_reducible refine Or.inl ?_|simp only [thenS,blockS]|with_reducible refine And.intro ?_ ?_|with_reducible exact True.intro|simp (dsimp:=false) only [↓gq,↓stepP,↓stepG,go_sem,bne_self_eq_false,beq_self_eq_true,Bool.and_self,Bool.not_true,Bool.or_self])
  all_goals (try (first|(intro hg;simp [hg];done)|exact of_decide_eq_true rfl|(cases h;done)))
  refine Pwp.range m.ls.length (S := L72x m) (Sub.view V0 (by simp [L72x]) rfl (by simp [L72x,boxV]) (by simp [L72x,boxV])) (fun i hi => ?_) ?_
  · obtain ⟨x, hx, hm⟩ := at_lt hi
    have hg := lines_get hx
    have c1 := dlt hi
    have w1 := wrap_succ (i := i) (by omega)
    unfold L72x boxV
    repeat' (first|((first|refine goA rfl fun K hK=>?_|refine goB rfl fun K hK=>?_|refine goC rfl rfl fun K hK=>?_|refine goD rfl rfl fun K hK=>?_);simp (dsimp:=false) only [↓gq,↓stepP,↓stepG,go_sem,hg,c1,w1,hll,beq_self_eq_true,Bool.and_self,Bool.not_true])|refine Pwp.seq ?_|refine Pwp.block ?_|(refine Pwp.exit ?_;simp only [thenS,blockS,if_true,if_false,reduceIte,Nat.reduceEqDiff,Nat.add_one_ne_zero,reduceCtorEq])|(refine Pwp.skip ?_;simp only [thenS,blockS])|(refine Pwp.cond rfl True.intro (fun h=>?_) (fun h=>?_)<;>(try (cases h;done))<;>(try simp only [h]))|refine Pwp.ret ?_|(refine hK _ ?_;clear hK K)|(refine hK _ _ rfl ?_;clear hK K)|refine CallG.off ?_|with_reducible refine Or.inl ?_|simp only [thenS,blockS]|with_reducible refine And.intro ?_ ?_|with_reducible exact True.intro|simp (dsimp:=false) only [↓gq,↓stepP,↓stepG,go_sem,hg,c1,w1,hll,beq_self_eq_true,Bool.and_self,Bool.not_true])
    all_goals (try (first|(intro hg;simp [hg];done)|exact of_decide_eq_true rfl|(cases h;done)))
    exact Sub.view V0 (by simp [L72x]) rfl (by simp [L72x,boxV]) (by simp [L72x,boxV])
  · have c1 := dge (Nat.le_refl m.ls.length)
    unfold L72x boxV
    repeat' (first|((first|refine goA rfl fun K hK=>?_|refine goB rfl fun K hK=>?_|refine goC rfl rfl fun K hK=>?_|refine goD rfl rfl fun K hK=>?_);simp (dsimp:=false) only [↓gq,↓stepP,↓stepG,go_sem,c1,hll])|refine Pwp.seq ?_|refine Pwp.block ?_|(refine Pwp.exit ?_;simp only [thenS,blockS,if_true,if_false,reduceIte,Nat.reduceEqDiff,Nat.add_one_ne_zero,reduceCtorEq])|(refine Pwp.skip ?_;simp only [thenS,blockS])|(refine Pwp.cond rfl True.intro (fun h=>?_) (fun h=>?_)<;>(try (cases h;done))<;>(try simp only [h]))|refine Pwp.ret ?_|(refine hK _ ?_;clear hK K)|(refine hK _ _ rfl ?_;clear hK K)|refine CallG.off ?_|with_reducible refine Or.inl ?_|simp only [thenS,blockS]|with_reducible refine And.intro ?_ ?_|with_reducible exact True.intro|simp (dsimp:=false) only [↓gq,↓stepP,↓stepG,go_sem,c1,hll])
    all_goals (try (first|(intro hg;simp [hg];done)|exact of_decide_eq_true rfl|(cases h;done)))
    refine Pwp.range m.ns.length (S := L72y m) (Sub.view V0 (by simp [L72y]) rfl (by simp [L72y,boxV]) (by simp [L72y,boxV])) (fun i hi => ?_) ?_
    · obtain ⟨x, hx, hm⟩ := at_lt hi
      have hg : (m.ns.map I64)[i]? = some (I64 x) := by simp [hx]
      have c2 := dlt hi
      have w2 := wrap_succ (i := i) (by omega)
      unfold L72y boxV
      repeat' (first|((first|refine goA rfl fun K hK=>?_|refine goB rfl fun K hK=>?_|refine goC rfl rfl fun K hK=>?_|refine goD rfl rfl fun K hK=>?_);simp (dsimp:=false) only [↓gq,↓stepP,↓stepG,go_sem,hg,c2,w2,hnl,bne_self_eq_false])|refine Pwp.seq ?_|refine Pwp.block ?_|(refine Pwp.exit ?_;simp only [thenS,blockS,if_true,if_false,reduceIte,Nat.reduceEqDiff,Nat.add_one_ne_zero,reduceCtorEq])|(refine Pwp.skip ?_;simp only [thenS,blockS])|(refine Pwp.cond rfl True.intro (fun h=>?_) (fun h=>?_)<;>(try (cases h;done))<;>(try simp only [h]))|refine Pwp.ret ?_|(refine hK _ ?_;clear hK K)|(refine hK _ _ rfl ?_;clear hK K)|refine CallG.off ?_|with_reducible refine Or.inl ?_|simp only [thenS,blockS]|with_reducible refine And.intro ?_ ?_|with_reducible exact True.intro|simp (dsimp:=false) only [↓gq,↓stepP,↓stepG,go_sem,hg,c2,w2,hnl,bne_self_eq_false])
      all_goals (try (first|(intro hg;simp [hg];done)|exact of_decide_eq_true rfl|(cases h;done)))
      exact Sub.view V0 (by simp [L72y]) rfl (by simp [L72y,boxV]) (by simp [L72y,boxV])
    · have c2 := dge (Nat.le_refl m.ns.length)
      unfold L72y boxV
      repeat' (first|((first|refine goA rfl fun K hK=>?_|refine goB rfl fun K hK=>?_|refine goC rfl rfl fun K hK=>?_|refine goD rfl rfl fun K hK=>?_);simp (dsimp:=false) only [↓gq,↓stepP,↓stepG,go_sem,c2,hnl])|refine Pwp.seq ?_|refine Pwp.block ?_|(refine Pwp.exit ?_;simp only [thenS,blockS,if_true,if_false,reduceIte,Nat.reduceEqDiff,Nat.add_one_ne_zero,reduceCtorEq])|(refine Pwp.skip ?_;simp only [thenS,blockS])|(refine Pwp.cond rfl True.intro (fun h=>?_) (fun h=>?_)<;>(try (cases h;done))<;>(try simp only [h]))|refine Pwp.ret ?_|(refine hK _ ?_;clear hK K)|(refine hK _ _ rfl ?_;clear hK K)|refine CallG.off ?_|with_reducible refine Or.inl ?_|simp only [thenS,blockS]|with_reducible refine And.intro ?_ ?_|with_reducible exact True.intro|simp (dsimp:=false) only [↓gq,↓stepP,↓stepG,go_sem,c2,hnl])
      all_goals (try (first|(intro hg;simp [hg];done)|exact of_decide_eq_true rfl|(cases h;done)))
      (refine Fin.data (.inr rfl) (by simp (dsimp:=false) only [↓gq,↓stepP,↓stepG,go_sem,resL]; rfl) (by simp only [and_self]) (by simp (dsimp:=false) only [↓gq,↓stepP,↓stepG,go_sem,resP,Nat.le_refl,List.take_length]; try rfl) ?_)
      exact subD_refl _
end Go.Proofs.Ytdodgbhodkcckaa.Pv
end
section
set_option linter.unusedVariables false
set_option linter.unusedSimpArgs false
set_option autoImplicit false
set_option maxRecDepth 100000
namespace Go.Proofs.Ytdodgbhodkcckaa.Pv
open Go Go.RowKit
def bxD (n : Nat) (rs : List DRun) : PObj := .box [.d (I64 n), .d (.slc 28 (drunsC rs))]
def L93a (n : Nat) (rs : List DRun) (i : Nat) : St :=
  ⟨[(23, pint .i64 i), (22, pint .i64 rs.length), (5, pint .i64 (wtsR 0 (rs.take i)).length), (3, .ref 9 0), (2, .ref 8 0)], [(8, bxC n rs), (9, bxD n rs)], 68⟩
def L93b (n : Nat) (rs : List DRun) (d : DRun) (i j : Nat) : St :=
  ⟨[(79, pint .i64 j), (78, pint .i64 n), (77, .own 83 0 3 0 n), (23, pint .i64 i), (22, pint .i64 rs.length), (9, .ref 125 0), (6, pint .i64 i), (5, pint .i64 (wtsR 0 (rs.take i)).length), (3, .ref 9 0), (2, .ref 8 0)],
   [(8, bxC n rs), (9, bxD n rs), (83, .arr 193 3 0 none (frD n d)), (125, .box ((drC d).map .d))], 316⟩
def mv0 (ls : List Line) (ns : List Int) : VMsg := ⟨0, 0, 0, 0, 0, 0, 0, 0, false, ls, ns⟩
set_option maxHeartbeats 64000000 in
theorem run93 (n : Nat) (rs : List DRun) (hn : n ≤ 8) (hr : RunsOK n rs) (hl : rs.length ≤ 10000) : Runs Try.prog 93 [.d (chD n rs), .d (dchD n rs)] [] (pbool true) [] := by
  have hlen := runsC_len n rs
  have hld := druns_len rs
  have r95 := run95 n rs hl
  unfold chD at r95
  unfold chD dchD
  refine Runs.of (kit Try.prog) Try.func93 rfl rfl (by rw [Try.ntmps93]; exact of_decide_eq_true rfl) ?_; rw [Try.ntmps93, Try.results93]
  repeat' (first|((first|refine goA rfl fun K hK=>?_|refine goB rfl fun K hK=>?_|refine goC rfl rfl fun K hK=>?_|refine goD rfl rfl fun K hK=>?_);simp (dsimp:=false) only [↓gq,↓stepP,↓stepG,go_sem,hlen,hld,bne_self_eq_false])|refine Pwp.seq ?_|refine Pwp.block ?_|(refine Pwp.exit ?_;simp only [thenS,blockS,if_true,if_false,reduceIte,Nat.reduceEqDiff,Nat.add_one_ne_zero,reduceCtorEq])|(refine Pwp.skip ?_;simp only [thenS,blockS])|(refine Pwp.cond rfl True.intro (fun h=>?_) (fun h=>?_)<;>(try (cases h;done))<;>(try simp only [h]))|refine Pwp.ret ?_|(refine hK _ ?_;clear hK K)|(refine hK _ _ rfl ?_;clear hK K)|refine CallG.off ?_|with_reducible refine Or.inl ?_|simp only [thenS,blockS]|with_reducible refine And.intro ?_ ?_|with_reducible exact True.intro|simp (dsimp:=false) only [↓gq,↓stepP,↓stepG,go_sem,hlen,hld,bne_self_eq_false])
  all_goals (try (first|(intro hg;simp [hg];done)|exact of_decide_eq_true rfl|(cases h;done)))
  refine Pwp.range rs.length (S := L93a n rs) (Sub.view V0 (by simp [L93a]) rfl (by simp [L93a,bxC,bxD,wtsR,hlen]) (by simp [L93a,bxC,bxD,wtsR,hlen])) (fun i hi => ?_) ?_
  · obtain ⟨y, hy, hm⟩ := at_lt hi
    have c1 := dlt hi
    have w1 := wrap_succ (i := i) (by omega)
    have w0 : ((i : Int) + 1) = ((i + 1 : Nat) : Int) := by omega
    have hyo := hr y hm
    have hcc : (decide (((i + 1 : Nat) : Int) < 1) || decide ((rs.length : Int) < ((i + 1 : Nat) : Int))) = false := by rw [Bool.or_eq_false_iff, decide_eq_false_iff_not, decide_eq_false_iff_not]; omega
    have r94 := run94 n rs ((i + 1 : Nat) : Int) hn hr (by omega) hcc
    have hat : atR rs ((i + 1 : Nat) : Int) = y := by
      unfold atR
      rw [show ((i + 1 : Nat) : Int) - 1 = (i : Int) by omega, Int.toNat_natCast, hy]; rfl
    rw [hat] at r94
    have hgy := druns_get hy
    have m0 : (List.map PVal.d (drC y)).length = 28 := by rw [List.length_map]; exact dr_len hyo
    have t0 : (List.map PVal.d (drC y)).take 28 = List.map PVal.d (drC y) := List.take_of_length_le (by omega)
    have lst := ldc (dr_st y)
    have lcu : (List.map PVal.d (drC y)).head? = some (PVal.d (I64 y.cur)) := rfl
    unfold List.head? at lcu
    have hmo : (List.map PVal.d (drC y)).all PVal.one = true := by rw [List.all_map]; exact dr_one y
    have lls : List.drop 26 (List.map PVal.d (drC y)) = PVal.d (LD y.ls) :: List.drop 27 (List.map PVal.d (drC y)) := ldc (by
      unfold drC
      rw [List.getElem?_cons_succ, List.getElem?_cons_succ, List.getElem?_append_right (by simp [hyo.off]), List.length_map, hyo.off, List.getElem?_append_right (by simp [hyo.vot]), List.length_map, hyo.vot, List.getElem?_append_right (by simp [hyo.ofs]), List.length_map, hyo.ofs]; rfl)
    have lns : List.drop 27 (List.map PVal.d (drC y)) = PVal.d (.slc 1 (y.ns.map I64)) :: List.drop 28 (List.map PVal.d (drC y)) := ldc (by
      unfold drC
      rw [List.getElem?_cons_succ, List.getElem?_cons_succ, List.getElem?_append_right (by simp [hyo.off]), List.length_map, hyo.off, List.getElem?_append_right (by simp [hyo.vot]), List.length_map, hyo.vot, List.getElem?_append_right (by simp [hyo.ofs]), List.length_map, hyo.ofs]; rfl)
    have hfl := frD_len n y
    have rS := run72e (mv0 y.ls y.ns) (by have := hyo.ls; simp only [mv0]; omega) (by have := hyo.ns; simp only [mv0]; omega)
    unfold runP at r94
    unfold chD at r94
    simp only [mv0, VMsg.msg, Msg.d, Msg.cells] at rS
    unfold L93a bxC bxD
    repeat' (first|((first|refine goA rfl fun K hK=>?_|refine goB rfl fun K hK=>?_|refine goC rfl rfl fun K hK=>?_|refine goD rfl rfl fun K hK=>?_);simp (dsimp:=false) only [↓gq,↓stepP,↓stepG,go_sem,c1,w1,hgy,m0,t0,hmo,idsL_d,lst,lcu,lls,lns,hfl,bne_self_eq_false,Bool.or_self,Bool.not_true])|refine Pwp.seq ?_|refine Pwp.block ?_|(refine Pwp.exit ?_;simp only [thenS,blockS,if_true,if_false,reduceIte,Nat.reduceEqDiff,Nat.add_one_ne_zero,reduceCtorEq])|(refine Pwp.skip ?_;simp only [thenS,blockS])|(refine Pwp.cond rfl True.intro (fun h=>?_) (fun h=>?_)<;>(try (cases h;done))<;>(try simp only [h]))|refine Pwp.ret ?_|(refine hK _ ?_;clear hK K)|(refine hK _ _ rfl ?_;clear hK K)|(refine CallK.give (ds:=[.agg [I64 n, .slc 5 (runsC n rs)], I64 ((i + 1 : Nat) : Int)]) rfl (r94) (by simp) ?_)|(refine CallG.toD (ds:=[.agg [I64 0, I64 0, I64 0, I64 0, I64 0, I64 0, I64 0, I64 0, .v (.bool false), .slc 4 (linesD y.ls), .slc 1 (y.ns.map I64)], .agg [I64 0, I64 0, I64 0, I64 0, I64 0, I64 0, I64 0, I64 0, .v (.bool false), .slc 4 (linesD y.ls), .slc 1 (y.ns.map I64)]]) rfl (rS) rfl ?_ ?_)|refine CallG.off ?_|with_reducible refine Or.inl ?_|simp only [thenS,blockS]|with_reducible refine And.intro ?_ ?_|with_reducible exact True.intro|simp (dsimp:=false) only [↓gq,↓stepP,↓stepG,go_sem,c1,w1,hgy,m0,t0,hmo,idsL_d,lst,lcu,lls,lns,hfl,bne_self_eq_false,Bool.or_self,Bool.not_true])
    all_goals (try (first|(intro hg;simp [hg];done)|exact of_decide_eq_true rfl|(cases h;done)))
    all_goals (try (intro hg; simp only [hg, Bool.not_false, Bool.not_true, Bool.and_self, Bool.true_and, Bool.and_true, true_and, and_self, imp_self, implies_true]; done))
    refine Pwp.range n (S := L93b n rs y i) (Sub.view V0 (by simp [L93b]) rfl (by simp [L93b,bxC,bxD,hfl]) (by simp [L93b,bxC,bxD,hfl])) (fun j hj => ?_) ?_
    · have c2 := dlt hj
      have w2 := wrap_succ (i := j) (by omega)
      have hgj := frD_get hj y
      have lo := ldc (dr_off hyo (k := j) (by omega))
      have lv := ldc (dr_vot hyo (k := j) (by omega))
      have lf := ldc (dr_ofs hyo (k := j) (by omega))
      have pj : (0 : Int) ≤ (j : Int) := by omega
      have hle : (y.ofs.getD j []).length ≤ 100 := by
        rw [List.getD_eq_getElem?_getD]
        cases h : y.ofs[j]? with
        | none => simp
        | some o => exact (hyo.fit o (List.mem_of_getElem? h)).2
      have rF := run72e (mv0 (y.ofs.getD j []) []) (by simp only [mv0]; omega) (by simp [mv0])
      simp only [mv0, VMsg.msg, Msg.d, Msg.cells, List.map_nil] at rF
      unfold L93b bxC bxD
      repeat' (first|((first|refine goA rfl fun K hK=>?_|refine goB rfl fun K hK=>?_|refine goC rfl rfl fun K hK=>?_|refine goD rfl rfl fun K hK=>?_);simp (dsimp:=false) only [↓gq,↓stepP,↓stepG,go_sem,beq_self_eq_true,Bool.or_self,Bool.not_true,Bool.not_false,c2,w2,hgj,hj,lo,lv,lf,pj,Nat.mul_one,bne_self_eq_false,Bool.or_self,Bool.not_true])|refine Pwp.seq ?_|refine Pwp.block ?_|(refine Pwp.exit ?_;simp only [thenS,blockS,if_true,if_false,reduceIte,Nat.reduceEqDiff,Nat.add_one_ne_zero,reduceCtorEq])|(refine Pwp.skip ?_;simp only [thenS,blockS])|(refine Pwp.cond rfl True.intro (fun h=>?_) (fun h=>?_)<;>(try (cases h;done))<;>(try simp only [h]))|refine Pwp.ret ?_|(refine hK _ ?_;clear hK K)|(refine hK _ _ rfl ?_;clear hK K)|(refine CallG.toDS (ds:=[.agg [I64 0, I64 0, I64 0, I64 0, I64 0, I64 0, I64 0, I64 0, .v (.bool false), .slc 4 (linesD (y.ofs.getD j [])), nilD], .agg [I64 0, I64 0, I64 0, I64 0, I64 0, I64 0, I64 0, I64 0, .v (.bool false), .slc 4 (linesD (y.ofs.getD j [])), nilD]]) (es:=[.agg [I64 0, I64 0, I64 0, I64 0, I64 0, I64 0, I64 0, I64 0, .v (.bool false), .slc 4 (linesD (y.ofs.getD j [])), .slc 1 []], .agg [I64 0, I64 0, I64 0, I64 0, I64 0, I64 0, I64 0, I64 0, .v (.bool false), .slc 4 (linesD (y.ofs.getD j [])), .slc 1 []]]) rfl (by simp [subL, subD, subV, subD_refl]) rF rfl ?_ ?_)|refine CallG.off ?_|with_reducible refine Or.inl ?_|simp only [thenS,blockS]|with_reducible refine And.intro ?_ ?_|with_reducible exact True.intro|simp (dsimp:=false) only [↓gq,↓stepP,↓stepG,go_sem,beq_self_eq_true,Bool.or_self,Bool.not_true,Bool.not_false,c2,w2,hgj,hj,lo,lv,lf,pj,Nat.mul_one,bne_self_eq_false,Bool.or_self,Bool.not_true])
      all_goals (try (first|(intro hg;simp [hg];done)|exact of_decide_eq_true rfl|(cases h;done)))
      all_goals (try (first | omega | exact ⟨by omega, by omega⟩))
      all_goals (try (intro hg; simp only [hg, Bool.not_false, Bool.not_true, Bool.and_self, Bool.true_and, Bool.and_true, true_and, and_self, imp_self, implies_true]; done))
      all_goals (try (intro hg; exact ⟨hg, by omega⟩))
      exact Sub.view V0 (by simp [L93b]) rfl (by simp [L93b,bxC,bxD]) (by simp [L93b,bxC,bxD])
    · have c2 := dge (Nat.le_refl n)
      have ht := wts_take hy
      have hol := open_lt hyo
      cases ho : openR y with
      | true =>
        rw [ho] at hol
        rw [if_pos ho] at ht
        obtain ⟨ha1, ha2⟩ := wts_at hy ho
        have hwm : ((wtsR 0 rs).map I64)[(wtsR 0 (rs.take i)).length]? = some (I64 ((i + 1 : Nat) : Int)) := by rw [List.getElem?_map, ha1]; rfl
        have hwl : ((wtsR 0 rs).map I64).length = (wtsR 0 rs).length := by simp
        have hge : decide (((wtsR 0 rs).length : Int) ≤ ((wtsR 0 (rs.take i)).length : Int)) = false := decide_eq_false (by omega)
        have hl2 : (wtsR 0 (rs.take (i + 1))).length = (wtsR 0 (rs.take i)).length + 1 := by rw [ht]; simp
        have hwb := wts_len rs 0
        have w3 := wrap_succ (i := (wtsR 0 (rs.take i)).length) (by omega)
        have hlt := hol.symm
        unfold L93b bxC bxD
        repeat' (first|((first|refine goA rfl fun K hK=>?_|refine goB rfl fun K hK=>?_|refine goC rfl rfl fun K hK=>?_|refine goD rfl rfl fun K hK=>?_);simp (dsimp:=false) only [↓gq,↓stepP,↓stepG,go_sem,c2,w1,lst,hlt,hwm,hwl,hge,w3,bne_self_eq_false,Bool.or_self])|refine Pwp.seq ?_|refine Pwp.block ?_|(refine Pwp.exit ?_;simp only [thenS,blockS,if_true,if_false,reduceIte,Nat.reduceEqDiff,Nat.add_one_ne_zero,reduceCtorEq])|(refine Pwp.skip ?_;simp only [thenS,blockS])|(refine Pwp.cond rfl True.intro (fun h=>?_) (fun h=>?_)<;>(try (cases h;done))<;>(try simp only [h]))|refine Pwp.ret ?_|(refine hK _ ?_;clear hK K)|(refine hK _ _ rfl ?_;clear hK K)|(refine CallK.toD (ds:=[.agg [I64 n, .slc 5 (runsC n rs)]]) rfl (r95) rfl ?_)|(refine CallK.give (ds:=[.agg [I64 n, .slc 5 (runsC n rs)]]) rfl (r95) (by simp) ?_)|refine CallG.off ?_|with_reducible refine Or.inl ?_|simp only [thenS,blockS]|with_reducible refine And.intro ?_ ?_|with_reducible exact True.intro|simp (dsimp:=false) only [↓gq,↓stepP,↓stepG,go_sem,c2,w1,lst,hlt,hwm,hwl,hge,w3,bne_self_eq_false,Bool.or_self])
        all_goals (try (first|(intro hg;simp [hg];done)|exact of_decide_eq_true rfl|(cases h;done)))
        all_goals (try (intro hg; simp only [hg, Bool.not_false, Bool.not_true, Bool.and_self, Bool.true_and, Bool.and_true, true_and, and_self, imp_self, implies_true]; done))
        exact Sub.view V0 (by simp [L93a]) rfl (by simp [L93a,bxC,bxD,hl2]) (by simp [L93a,bxC,bxD,hl2])
      | false =>
        rw [ho] at hol
        rw [if_neg (by rw [ho]; simp), List.append_nil] at ht
        have hlt := hol.symm
        unfold L93b bxC bxD
        repeat' (first|((first|refine goA rfl fun K hK=>?_|refine goB rfl fun K hK=>?_|refine goC rfl rfl fun K hK=>?_|refine goD rfl rfl fun K hK=>?_);simp (dsimp:=false) only [↓gq,↓stepP,↓stepG,go_sem,c2,w1,lst,hlt])|refine Pwp.seq ?_|refine Pwp.block ?_|(refine Pwp.exit ?_;simp only [thenS,blockS,if_true,if_false,reduceIte,Nat.reduceEqDiff,Nat.add_one_ne_zero,reduceCtorEq])|(refine Pwp.skip ?_;simp only [thenS,blockS])|(refine Pwp.cond rfl True.intro (fun h=>?_) (fun h=>?_)<;>(try (cases h;done))<;>(try simp only [h]))|refine Pwp.ret ?_|(refine hK _ ?_;clear hK K)|(refine hK _ _ rfl ?_;clear hK K)|refine CallG.off ?_|with_reducible refine Or.inl ?_|simp only [thenS,blockS]|with_reducible refine And.intro ?_ ?_|with_reducible exact True.intro|simp (dsimp:=false) only [↓gq,↓stepP,↓stepG,go_sem,c2,w1,lst,hlt])
        all_goals (try (first|(intro hg;simp [hg];done)|exact of_decide_eq_true rfl|(cases h;done)))
        exact Sub.view V0 (by simp [L93a]) rfl (by simp [L93a,bxC,bxD,ht]) (by simp [L93a,bxC,bxD,ht])
  · have c1 := dge (Nat.le_refl rs.length)
    have hwl : ((wtsR 0 rs).map I64).length = (wtsR 0 rs).length := by simp
    unfold L93a bxC bxD
    rw [List.take_length]
    repeat' (first|((first|refine goA rfl fun K hK=>?_|refine goB rfl fun K hK=>?_|refine goC rfl rfl fun K hK=>?_|refine goD rfl rfl fun K hK=>?_);simp (dsimp:=false) only [↓gq,↓stepP,↓stepG,go_sem,c1,hwl,beq_self_eq_true])|refine Pwp.seq ?_|refine Pwp.block ?_|(refine Pwp.exit ?_;simp only [thenS,blockS,if_true,if_false,reduceIte,Nat.reduceEqDiff,Nat.add_one_ne_zero,reduceCtorEq])|(refine Pwp.skip ?_;simp only [thenS,blockS])|(refine Pwp.cond rfl True.intro (fun h=>?_) (fun h=>?_)<;>(try (cases h;done))<;>(try simp only [h]))|refine Pwp.ret ?_|(refine hK _ ?_;clear hK K)|(refine hK _ _ rfl ?_;clear hK K)|(refine CallK.give (ds:=[.agg [I64 n, .slc 5 (runsC n rs)]]) rfl (r95) (by simp) ?_)|refine CallG.off ?_|with_reducible refine Or.inl ?_|simp only [thenS,blockS]|with_reducible refine And.intro ?_ ?_|with_reducible exact True.intro|simp (dsimp:=false) only [↓gq,↓stepP,↓stepG,go_sem,c1,hwl,beq_self_eq_true])
    all_goals (try (first|(intro hg;simp [hg];done)|exact of_decide_eq_true rfl|(cases h;done)))
    (refine Fin.data (.inr rfl) (by simp (dsimp:=false) only [↓gq,↓stepP,↓stepG,go_sem,resL]; rfl) (by simp only [and_self]) (by simp (dsimp:=false) only [↓gq,↓stepP,↓stepG,go_sem,resP,Nat.le_refl,List.take_length]; try rfl) ?_)
    exact subD_refl _
end Go.Proofs.Ytdodgbhodkcckaa.Pv
end
section
set_option linter.unusedVariables false
set_option linter.unusedSimpArgs false
set_option autoImplicit false
set_option maxRecDepth 100000
namespace Go.Proofs.Ytdodgbhodkcckaa.Pv
open Go Go.RowKit
def L29a (ws : List VW) (n : Nat) (rs : List DRun) (i : Nat) : St :=
  ⟨[(35, pint .i64 i), (34, pint .i64 ws.length), (33, .d (.slc 12 (vwsD ws))), (6, .ref 82 0), (5, .ref 66 0)], [(66, bxC n rs), (82, bxD n rs)], 108⟩
def L29b (ws : List VW) (n : Nat) (rs rs' : List DRun) (os : List D) (i j : Nat) : St :=
  ⟨[(71, pint .i64 j), (70, pint .i64 os.length), (35, pint .i64 i), (34, pint .i64 ws.length), (33, .d (.slc 12 (vwsD ws))), (13, .d (.slc 12 os)), (12, .ref 194 0), (10, .d (.slc 12 os)), (9, .ref 138 0), (6, .ref 82 0), (5, .ref 66 0)],
   [(66, bxC n rs), (82, bxD n rs), (138, bxC n rs'), (194, bxD n rs')], 292⟩
structure At29 (n : Nat) (rs : List DRun) (i : Nat) : Prop where
  ok : RunsOK n rs
  len : rs.length ≤ i
set_option maxHeartbeats 64000000 in
theorem run29 (n : Int) (ws : List VW) : Runs Try.prog 29 [pint .i64 n, .d (.slc 12 (vwsD ws))] [] (pbool true) [] := by
  have r89 := run89
  have r90 := run90 ws
  have hvl := vws_len ws
  cases hn : (decide (n < 1) || decide (8 < n)) with
  | true =>
    refine Runs.of (kit Try.prog) Try.func29 rfl rfl (by rw [Try.ntmps29]; exact of_decide_eq_true rfl) ?_; rw [Try.ntmps29, Try.results29]
    repeat' (first|((first|refine goA rfl fun K hK=>?_|refine goB rfl fun K hK=>?_|refine goC rfl rfl fun K hK=>?_|refine goD rfl rfl fun K hK=>?_);simp (dsimp:=false) only [↓gq,↓stepP,↓stepG,go_sem,Bool.not_true,Bool.not_false,hn])|refine Pwp.seq ?_|refine Pwp.block ?_|(refine Pwp.exit ?_;simp only [thenS,blockS,if_true,if_false,reduceIte,Nat.reduceEqDiff,Nat.add_one_ne_zero,reduceCtorEq])|(refine Pwp.skip ?_;simp only [thenS,blockS])|(refine Pwp.cond rfl True.intro (fun h=>?_) (fun h=>?_)<;>(try (cases h;done))<;>(try simp only [h]))|refine Pwp.ret ?_|(refine hK _ ?_;clear hK K)|(refine hK _ _ rfl ?_;clear hK K)|(refine CallK.toD (ds:=[]) rfl (r89) rfl ?_)|refine CallG.off ?_|with_reducible refine Or.inl ?_|simp only [thenS,blockS]|with_reducible refine And.intro ?_ ?_|with_reducible exact True.intro|simp (dsimp:=false) only [↓gq,↓stepP,↓stepG,go_sem,Bool.not_true,Bool.not_false,hn])
    all_goals (try (first|(intro hg;simp [hg];done)|exact of_decide_eq_true rfl|(cases h;done)))
    all_goals (try (intro hg; simp only [hg, Bool.not_false, Bool.not_true, Bool.and_self, Bool.true_and, Bool.and_true, true_and, and_self, imp_self, implies_true]; done))
    (refine Fin.data (.inr rfl) (by simp (dsimp:=false) only [↓gq,↓stepP,↓stepG,go_sem,resL]; rfl) (by simp only [and_self]) (by simp (dsimp:=false) only [↓gq,↓stepP,↓stepG,go_sem,resP,Nat.le_refl,List.take_length]; try rfl) ?_)
    exact subD_refl _
  | false =>
    cases hf : fitsC ws with
    | false =>
      rw [hf] at r90
      refine Runs.of (kit Try.prog) Try.func29 rfl rfl (by rw [Try.ntmps29]; exact of_decide_eq_true rfl) ?_; rw [Try.ntmps29, Try.results29]
      repeat' (first|((first|refine goA rfl fun K hK=>?_|refine goB rfl fun K hK=>?_|refine goC rfl rfl fun K hK=>?_|refine goD rfl rfl fun K hK=>?_);simp (dsimp:=false) only [↓gq,↓stepP,↓stepG,go_sem,Bool.not_true,Bool.not_false,hn])|refine Pwp.seq ?_|refine Pwp.block ?_|(refine Pwp.exit ?_;simp only [thenS,blockS,if_true,if_false,reduceIte,Nat.reduceEqDiff,Nat.add_one_ne_zero,reduceCtorEq])|(refine Pwp.skip ?_;simp only [thenS,blockS])|(refine Pwp.cond rfl True.intro (fun h=>?_) (fun h=>?_)<;>(try (cases h;done))<;>(try simp only [h]))|refine Pwp.ret ?_|(refine hK _ ?_;clear hK K)|(refine hK _ _ rfl ?_;clear hK K)|(refine CallK.toD (ds:=[]) rfl (r89) rfl ?_)|(refine CallG.toD (ds:=[.slc 12 (vwsD ws)]) rfl (r90) rfl ?_ ?_)|refine CallG.off ?_|with_reducible refine Or.inl ?_|simp only [thenS,blockS]|with_reducible refine And.intro ?_ ?_|with_reducible exact True.intro|simp (dsimp:=false) only [↓gq,↓stepP,↓stepG,go_sem,Bool.not_true,Bool.not_false,hn])
      all_goals (try (first|(intro hg;simp [hg];done)|exact of_decide_eq_true rfl|(cases h;done)))
      all_goals (try (intro hg; simp only [hg, Bool.not_false, Bool.not_true, Bool.and_self, Bool.true_and, Bool.and_true, true_and, and_self, imp_self, implies_true]; done))
      (refine Fin.data (.inr rfl) (by simp (dsimp:=false) only [↓gq,↓stepP,↓stepG,go_sem,resL]; rfl) (by simp only [and_self]) (by simp (dsimp:=false) only [↓gq,↓stepP,↓stepG,go_sem,resP,Nat.le_refl,List.take_length]; try rfl) ?_)
      exact subD_refl _
    | true =>
      rw [hf] at r90
      have hf2 := hf
      have hn2 := hn
      simp only [Bool.or_eq_false_iff, decide_eq_false_iff_not] at hn2
      obtain ⟨N, rfl⟩ : ∃ N : Nat, n = (N : Int) := ⟨n.toNat, by omega⟩
      simp only [fitsC, Bool.and_eq_true, Bool.not_eq_true', decide_eq_false_iff_not, List.all_eq_true] at hf2
      obtain ⟨hw, hall⟩ := hf2
      refine Runs.of (kit Try.prog) Try.func29 rfl rfl (by rw [Try.ntmps29]; exact of_decide_eq_true rfl) ?_; rw [Try.ntmps29, Try.results29]
      repeat' (first|((first|refine goA rfl fun K hK=>?_|refine goB rfl fun K hK=>?_|refine goC rfl rfl fun K hK=>?_|refine goD rfl rfl fun K hK=>?_);simp (dsimp:=false) only [↓gq,↓stepP,↓stepG,go_sem,Bool.not_true,Bool.not_false,hn,hvl])|refine Pwp.seq ?_|refine Pwp.block ?_|(refine Pwp.exit ?_;simp only [thenS,blockS,if_true,if_false,reduceIte,Nat.reduceEqDiff,Nat.add_one_ne_zero,reduceCtorEq])|(refine Pwp.skip ?_;simp only [thenS,blockS])|(refine Pwp.cond rfl True.intro (fun h=>?_) (fun h=>?_)<;>(try (cases h;done))<;>(try simp only [h]))|refine Pwp.ret ?_|(refine hK _ ?_;clear hK K)|(refine hK _ _ rfl ?_;clear hK K)|(refine CallK.toD (ds:=[]) rfl (r89) rfl ?_)|(refine CallG.toD (ds:=[.slc 12 (vwsD ws)]) rfl (r90) rfl ?_ ?_)|refine CallG.off ?_|with_reducible refine Or.inl ?_|simp only [thenS,blockS]|with_reducible refine And.intro ?_ ?_|with_reducible exact True.intro|simp (dsimp:=false) only [↓gq,↓stepP,↓stepG,go_sem,Bool.not_true,Bool.not_false,hn,hvl])
      all_goals (try (first|(intro hg;simp [hg];done)|exact of_decide_eq_true rfl|(cases h;done)))
      all_goals (try (intro hg; simp only [hg, Bool.not_false, Bool.not_true, Bool.and_self, Bool.true_and, Bool.and_true, true_and, and_self, imp_self, implies_true]; done))
      refine Pwp.rangeI ws.length (fun i s => ∃ rs, At29 N rs i ∧ s = L29a ws N rs i) (s0 := L29a ws N [] 0) (Sub.view V0 (by simp [L29a]) rfl (by simp [L29a,bxC,bxD,runsC,drunsC,hvl]) (by simp [L29a,bxC,bxD,runsC,drunsC,hvl])) ⟨[], ⟨by simp [RunsOK], by simp⟩, rfl⟩ ?_ ?_
      · rintro i s hi ⟨rs, hA, rfl⟩
        obtain ⟨v, hx, hm⟩ := at_lt hi
        have hg := vws_get hx
        have c1 := dlt hi
        have w1 := wrap_succ (i := i) (by omega)
        have hwl := hall v hm
        simp only [badC, Bool.not_eq_true', Bool.or_eq_false_iff, decide_eq_false_iff_not] at hwl
        have hll := hA.len
        have r91 := run91 N rs v.m v.from' (by omega) hA.ok (by omega) (by omega)
        have r92 := run92 N rs v.m v.from' (by omega) hA.ok (by omega) (by omega)
        obtain ⟨o1, o2⟩ := chiefR_o (n := N) (by omega) hA.ok v.m v.from' (by omega)
        obtain ⟨k1, k2⟩ := chiefR_ok (n := N) (by omega) hA.ok (m := v.m) (f := v.from') (by omega)
        generalize chiefR N rs v.m v.from' = R at *
        obtain ⟨e, rs', o⟩ := R
        simp only at o1 o2 k1 k2
        have r93 := run93 N rs' (by omega) k1 (by omega)
        have hol := sents_len o
        simp only [cOutD, dOutD, chD, dchD, VMsg.msg, Msg.d, Msg.cells] at r91 r92 r93
        have hA' : At29 N rs' (i + 1) := ⟨k1, by omega⟩
        unfold L29a bxC bxD
        repeat' (first|((first|refine goA rfl fun K hK=>?_|refine goB rfl fun K hK=>?_|refine goC rfl rfl fun K hK=>?_|refine goD rfl rfl fun K hK=>?_);simp (dsimp:=false) only [↓gq,↓stepP,↓stepG,go_sem,hg,c1,bne_self_eq_false,Bool.or_self])|refine Pwp.seq ?_|refine Pwp.block ?_|(refine Pwp.exit ?_;simp only [thenS,blockS,if_true,if_false,reduceIte,Nat.reduceEqDiff,Nat.add_one_ne_zero,reduceCtorEq])|(refine Pwp.skip ?_;simp only [thenS,blockS])|(refine Pwp.cond rfl True.intro (fun h=>?_) (fun h=>?_)<;>(try (cases h;done))<;>(try simp only [h]))|refine Pwp.ret ?_|(refine hK _ ?_;clear hK K)|(refine hK _ _ rfl ?_;clear hK K)|(refine CallK.give (ds:=[.agg [I64 N, .slc 5 (runsC N rs)], .agg [I64 v.m.kind, I64 v.m.seller, I64 v.m.number, I64 v.m.buyer, I64 v.m.currency, I64 v.m.round, I64 v.m.cycle, I64 v.m.amount, .v (.bool v.m.yes), .slc 4 (linesD v.m.ls), .slc 1 (v.m.ns.map I64)], I64 v.from']) rfl (r91) (by simp) ?_)|(refine CallK.give (ds:=[.agg [I64 N, .slc 28 (drunsC rs)], .agg [I64 v.m.kind, I64 v.m.seller, I64 v.m.number, I64 v.m.buyer, I64 v.m.currency, I64 v.m.round, I64 v.m.cycle, I64 v.m.amount, .v (.bool v.m.yes), .slc 4 (linesD v.m.ls), .slc 1 (v.m.ns.map I64)], I64 v.from']) rfl (r92) (by simp) ?_)|refine CallG.off ?_|with_reducible refine Or.inl ?_|simp only [thenS,blockS]|with_reducible refine And.intro ?_ ?_|with_reducible exact True.intro|simp (dsimp:=false) only [↓gq,↓stepP,↓stepG,go_sem,hg,c1,bne_self_eq_false,Bool.or_self])
        all_goals (try (first|(intro hg;simp [hg];done)|exact of_decide_eq_true rfl|(cases h;done)))
        all_goals (try (intro hg; simp only [hg, Bool.not_false, Bool.not_true, Bool.and_self, Bool.true_and, Bool.and_true, true_and, and_self, imp_self, implies_true]; done))
        refine Pwp.range (sentsD o).length (S := L29b ws N rs rs' (sentsD o) i) (Sub.view V0 (by simp [L29b]) rfl (by simp [L29b,bxC,bxD]) (by simp [L29b,bxC,bxD])) (fun j hj => ?_) ?_
        · obtain ⟨p, hp, hpm⟩ := at_lt (l := o) (i := j) (by omega)
          have hgp := sents_get hp
          obtain ⟨p1, p2⟩ := o2 p hpm
          have c2 := dlt hj
          have w2 := wrap_succ (i := j) (by omega)
          have rS := run72e p.2 (by omega) (by omega)
          simp only [VMsg.msg, Msg.d, Msg.cells] at rS
          unfold L29b bxC bxD
          repeat' (first|((first|refine goA rfl fun K hK=>?_|refine goB rfl fun K hK=>?_|refine goC rfl rfl fun K hK=>?_|refine goD rfl rfl fun K hK=>?_);simp (dsimp:=false) only [↓gq,↓stepP,↓stepG,go_sem,hgp,c2,w2,bne_self_eq_false,Bool.not_true,Bool.or_self])|refine Pwp.seq ?_|refine Pwp.block ?_|(refine Pwp.exit ?_;simp only [thenS,blockS,if_true,if_false,reduceIte,Nat.reduceEqDiff,Nat.add_one_ne_zero,reduceCtorEq])|(refine Pwp.skip ?_;simp only [thenS,blockS])|(refine Pwp.cond rfl True.intro (fun h=>?_) (fun h=>?_)<;>(try (cases h;done))<;>(try simp only [h]))|refine Pwp.ret ?_|(refine hK _ ?_;clear hK K)|(refine hK _ _ rfl ?_;clear hK K)|(refine CallG.toD (ds:=[.agg [I64 p.2.kind, I64 p.2.seller, I64 p.2.number, I64 p.2.buyer, I64 p.2.currency, I64 p.2.round, I64 p.2.cycle, I64 p.2.amount, .v (.bool p.2.yes), .slc 4 (linesD p.2.ls), .slc 1 (p.2.ns.map I64)], .agg [I64 p.2.kind, I64 p.2.seller, I64 p.2.number, I64 p.2.buyer, I64 p.2.currency, I64 p.2.round, I64 p.2.cycle, I64 p.2.amount, .v (.bool p.2.yes), .slc 4 (linesD p.2.ls), .slc 1 (p.2.ns.map I64)]]) rfl (rS) rfl ?_ ?_)|refine CallG.off ?_|with_reducible refine Or.inl ?_|simp only [thenS,blockS]|with_reducible refine And.intro ?_ ?_|with_reducible exact True.intro|simp (dsimp:=false) only [↓gq,↓stepP,↓stepG,go_sem,hgp,c2,w2,bne_self_eq_false,Bool.not_true,Bool.or_self])
          all_goals (try (first|(intro hg;simp [hg];done)|exact of_decide_eq_true rfl|(cases h;done)))
          all_goals (try (intro hg; simp only [hg, Bool.not_false, Bool.not_true, Bool.and_self, Bool.true_and, Bool.and_true, true_and, and_self, imp_self, implies_true]; done))
          exact Sub.view V0 (by simp [L29b]) rfl (by simp [L29b,bxC,bxD]) (by simp [L29b,bxC,bxD])
        · have c2 := dge (Nat.le_refl (sentsD o).length)
          unfold L29b bxC bxD
          repeat' (first|((first|refine goA rfl fun K hK=>?_|refine goB rfl fun K hK=>?_|refine goC rfl rfl fun K hK=>?_|refine goD rfl rfl fun K hK=>?_);simp (dsimp:=false) only [↓gq,↓stepP,↓stepG,go_sem,c2,w1,Bool.not_true])|refine Pwp.seq ?_|refine Pwp.block ?_|(refine Pwp.exit ?_;simp only [thenS,blockS,if_true,if_false,reduceIte,Nat.reduceEqDiff,Nat.add_one_ne_zero,reduceCtorEq])|(refine Pwp.skip ?_;simp only [thenS,blockS])|(refine Pwp.cond rfl True.intro (fun h=>?_) (fun h=>?_)<;>(try (cases h;done))<;>(try simp only [h]))|refine Pwp.ret ?_|(refine hK _ ?_;clear hK K)|(refine hK _ _ rfl ?_;clear hK K)|(refine CallK.toD (ds:=[.agg [I64 N, .slc 5 (runsC N rs')], .agg [I64 N, .slc 28 (drunsC rs')]]) rfl (r93) rfl ?_)|refine CallG.off ?_|with_reducible refine Or.inl ?_|simp only [thenS,blockS]|with_reducible refine And.intro ?_ ?_|with_reducible exact True.intro|simp (dsimp:=false) only [↓gq,↓stepP,↓stepG,go_sem,c2,w1,Bool.not_true])
          all_goals (try (first|(intro hg;simp [hg];done)|exact of_decide_eq_true rfl|(cases h;done)))
          exact ⟨_, Sub.view V0 (by simp [L29a]) rfl (by simp [L29a,bxC,bxD]) (by simp [L29a,bxC,bxD]), rs', hA', rfl⟩
      · rintro s ⟨rs, hA, rfl⟩
        have c1 := dge (Nat.le_refl ws.length)
        unfold L29a bxC bxD
        repeat' (first|((first|refine goA rfl fun K hK=>?_|refine goB rfl fun K hK=>?_|refine goC rfl rfl fun K hK=>?_|refine goD rfl rfl fun K hK=>?_);simp (dsimp:=false) only [↓gq,↓stepP,↓stepG,go_sem,c1])|refine Pwp.seq ?_|refine Pwp.block ?_|(refine Pwp.exit ?_;simp only [thenS,blockS,if_true,if_false,reduceIte,Nat.reduceEqDiff,Nat.add_one_ne_zero,reduceCtorEq])|(refine Pwp.skip ?_;simp only [thenS,blockS])|(refine Pwp.cond rfl True.intro (fun h=>?_) (fun h=>?_)<;>(try (cases h;done))<;>(try simp only [h]))|refine Pwp.ret ?_|(refine hK _ ?_;clear hK K)|(refine hK _ _ rfl ?_;clear hK K)|refine CallG.off ?_|with_reducible refine Or.inl ?_|simp only [thenS,blockS]|with_reducible refine And.intro ?_ ?_|with_reducible exact True.intro|simp (dsimp:=false) only [↓gq,↓stepP,↓stepG,go_sem,c1])
        all_goals (try (first|(intro hg;simp [hg];done)|exact of_decide_eq_true rfl|(cases h;done)))
        (refine Fin.data (.inr rfl) (by simp (dsimp:=false) only [↓gq,↓stepP,↓stepG,go_sem,resL]; rfl) (by simp only [and_self]) (by simp (dsimp:=false) only [↓gq,↓stepP,↓stepG,go_sem,resP,Nat.le_refl,List.take_length]; try rfl) ?_)
        exact subD_refl _
end Go.Proofs.Ytdodgbhodkcckaa.Pv
end
section
set_option autoImplicit false
namespace Go.Proofs.Ytdodgbhodkcckaa.Pv
open Go Go.RowKit
theorem run29k (xs : List D) (h : okArgs [(false, [.int .i64]), (false, [.slc true wordVL])] xs) : Runs Try.prog 29 (xs.map .d) [] (.d (.v (.bool true))) [] := by
  simp only [okArgs, okL] at h
  obtain ⟨_, _, rfl, ⟨_, _, rfl, h0, rfl⟩, _, _, rfl, ⟨_, _, rfl, h1, rfl⟩, rfl⟩ := h
  obtain ⟨ws, rfl, _⟩ := wordsV_of h1
  simp only [okD] at h0
  obtain ⟨n, rfl, _⟩ := h0
  exact run29 n ws
end Go.Proofs.Ytdodgbhodkcckaa.Pv
end
