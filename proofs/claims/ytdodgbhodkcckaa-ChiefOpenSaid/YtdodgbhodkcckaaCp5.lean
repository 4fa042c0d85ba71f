/- A part of the proof: the machine of plain values and walks of functions. -/
import Derived.Test.YtdodgbhodkcckaaCp4
section
set_option linter.unusedVariables false
set_option linter.unusedSimpArgs false
set_option autoImplicit false
set_option maxRecDepth 100000
namespace Go.Proofs.Ytdodgbhodkcckaa.Pv
open Go Go.RowKit
theorem run203 (els : List D) (ho : ∀ d ∈ els, d.cells.all D.one = true) (hm : els.length * 88 ≤ 140737488355328) : Runs Try.prog 203 [.d (.slc 5 els)] [] (.own 8 0 5 0 els.length) [(8, .arr 187 5 0 none els)] := by
  refine Runs.slc (pre := []) (post := []) (fun hne => ?_) (fun he ad cap => ?_)
  · obtain ⟨x, xs, rfl⟩ := List.exists_cons_of_ne_nil hne
    refine Runs.of (kit Try.prog) Try.func203 rfl rfl (by rw [Try.ntmps203]; exact of_decide_eq_true rfl) ?_; rw [Try.ntmps203, Try.results203]
    repeat' (first|((first|refine goA rfl fun K hK=>?_|refine goB rfl fun K hK=>?_|refine goC rfl rfl fun K hK=>?_|refine goD rfl rfl fun K hK=>?_);simp (dsimp:=false) only [↓gq,↓stepP,↓stepG,go_sem])|refine Pwp.seq ?_|refine Pwp.block ?_|(refine Pwp.exit ?_;simp only [thenS,blockS,if_true,if_false,reduceIte,Nat.reduceEqDiff,Nat.add_one_ne_zero,reduceCtorEq])|(refine Pwp.skip ?_;simp only [thenS,blockS])|(refine Pwp.cond rfl True.intro (fun h=>?_) (fun h=>?_)<;>(try (cases h;done))<;>(try simp only [h]))|refine Pwp.ret ?_|(refine hK _ ?_;clear hK K)|(refine hK _ _ rfl ?_;clear hK K)|refine CallG.off ?_|with_reducible refine Or.inl ?_|simp only [thenS,blockS]|with_reducible refine And.intro ?_ ?_|with_reducible exact True.intro|simp (dsimp:=false) only [↓gq,↓stepP,↓stepG,go_sem])
    all_goals (try (first|(intro hg;simp_all;done)|(intro hg;simp [hg];done)|exact of_decide_eq_true rfl|(cases h;done)))
    all_goals (try (first | exact ho | (simp [maxLen] at hm ⊢; omega)))
    show Fin _ _ (.own 8 0 5 0 (x :: xs).length) [(8, .arr 187 5 0 none (x :: xs))] _ _
    refine Fin.row (els := x :: xs) (.inr rfl) rfl ?_ rfl rfl
    exact ⟨True.intro, True.intro⟩
  · subst he
    cases ad with
    | none =>
      refine Runs.of (kit Try.prog) Try.func203 rfl rfl (by rw [Try.ntmps203]; exact of_decide_eq_true rfl) ?_; rw [Try.ntmps203, Try.results203]
      repeat' (first|((first|refine goA rfl fun K hK=>?_|refine goB rfl fun K hK=>?_|refine goC rfl rfl fun K hK=>?_|refine goD rfl rfl fun K hK=>?_);simp (dsimp:=false) only [↓gq,↓stepP,↓stepG,go_sem])|refine Pwp.seq ?_|refine Pwp.block ?_|(refine Pwp.exit ?_;simp only [thenS,blockS,if_true,if_false,reduceIte,Nat.reduceEqDiff,Nat.add_one_ne_zero,reduceCtorEq])|(refine Pwp.skip ?_;simp only [thenS,blockS])|(refine Pwp.cond rfl True.intro (fun h=>?_) (fun h=>?_)<;>(try (cases h;done))<;>(try simp only [h]))|refine Pwp.ret ?_|(refine hK _ ?_;clear hK K)|(refine hK _ _ rfl ?_;clear hK K)|refine CallG.off ?_|with_reducible refine Or.inl ?_|simp only [thenS,blockS]|with_reducible refine And.intro ?_ ?_|with_reducible exact True.intro|simp (dsimp:=false) only [↓gq,↓stepP,↓stepG,go_sem])
      all_goals (try (first|(intro hg;simp_all;done)|(intro hg;simp [hg];done)|exact of_decide_eq_true rfl|(cases h;done)))
      refine Fin.nil (.inr rfl) rfl ?_
      exact ⟨True.intro, True.intro⟩
    | some ad =>
      refine Runs.of (kit Try.prog) Try.func203 rfl rfl (by rw [Try.ntmps203]; exact of_decide_eq_true rfl) ?_; rw [Try.ntmps203, Try.results203]
      repeat' (first|((first|refine goA rfl fun K hK=>?_|refine goB rfl fun K hK=>?_|refine goC rfl rfl fun K hK=>?_|refine goD rfl rfl fun K hK=>?_);simp (dsimp:=false) only [↓gq,↓stepP,↓stepG,go_sem])|refine Pwp.seq ?_|refine Pwp.block ?_|(refine Pwp.exit ?_;simp only [thenS,blockS,if_true,if_false,reduceIte,Nat.reduceEqDiff,Nat.add_one_ne_zero,reduceCtorEq])|(refine Pwp.skip ?_;simp only [thenS,blockS])|(refine Pwp.cond rfl True.intro (fun h=>?_) (fun h=>?_)<;>(try (cases h;done))<;>(try simp only [h]))|refine Pwp.ret ?_|(refine hK _ ?_;clear hK K)|(refine hK _ _ rfl ?_;clear hK K)|refine CallG.off ?_|with_reducible refine Or.inl ?_|simp only [thenS,blockS]|with_reducible refine And.intro ?_ ?_|with_reducible exact True.intro|simp (dsimp:=false) only [↓gq,↓stepP,↓stepG,go_sem])
      all_goals (try (first|(intro hg;simp_all;done)|(intro hg;simp [hg];done)|exact of_decide_eq_true rfl|(cases h;done)))
      all_goals (try (first | exact ho | (simp [maxLen]; done)))
      refine Fin.row (els := []) (.inr rfl) rfl ?_ rfl rfl
      exact ⟨True.intro, True.intro⟩
theorem run210 (els : List D) (ho : ∀ d ∈ els, d.cells.all D.one = true) (hm : els.length * 32 ≤ 140737488355328) : Runs Try.prog 210 [.d (.slc 3 els)] [] (.own 8 0 3 0 els.length) [(8, .arr 193 3 0 none els)] := by
  refine Runs.slc (pre := []) (post := []) (fun hne => ?_) (fun he ad cap => ?_)
  · obtain ⟨x, xs, rfl⟩ := List.exists_cons_of_ne_nil hne
    refine Runs.of (kit Try.prog) Try.func210 rfl rfl (by rw [Try.ntmps210]; exact of_decide_eq_true rfl) ?_; rw [Try.ntmps210, Try.results210]
    repeat' (first|((first|refine goA rfl fun K hK=>?_|refine goB rfl fun K hK=>?_|refine goC rfl rfl fun K hK=>?_|refine goD rfl rfl fun K hK=>?_);simp (dsimp:=false) only [↓gq,↓stepP,↓stepG,go_sem])|refine Pwp.seq ?_|refine Pwp.block ?_|(refine Pwp.exit ?_;simp only [thenS,blockS,if_true,if_false,reduceIte,Nat.reduceEqDiff,Nat.add_one_ne_zero,reduceCtorEq])|(refine Pwp.skip ?_;simp only [thenS,blockS])|(refine Pwp.cond rfl True.intro (fun h=>?_) (fun h=>?_)<;>(try (cases h;done))<;>(try simp only [h]))|refine Pwp.ret ?_|(refine hK _ ?_;clear hK K)|(refine hK _ _ rfl ?_;clear hK K)|refine CallG.off ?_|with_reducible refine Or.inl ?_|simp only [thenS,blockS]|with_reducible refine And.intro ?_ ?_|with_reducible exact True.intro|simp (dsimp:=false) only [↓gq,↓stepP,↓stepG,go_sem])
    all_goals (try (first|(intro hg;simp_all;done)|(intro hg;simp [hg];done)|exact of_decide_eq_true rfl|(cases h;done)))
    all_goals (try (first | exact ho | (simp [maxLen] at hm ⊢; omega)))
    show Fin _ _ (.own 8 0 3 0 (x :: xs).length) [(8, .arr 193 3 0 none (x :: xs))] _ _
    refine Fin.row (els := x :: xs) (.inr rfl) rfl ?_ rfl rfl
    exact ⟨True.intro, True.intro⟩
  · subst he
    cases ad with
    | none =>
      refine Runs.of (kit Try.prog) Try.func210 rfl rfl (by rw [Try.ntmps210]; exact of_decide_eq_true rfl) ?_; rw [Try.ntmps210, Try.results210]
      repeat' (first|((first|refine goA rfl fun K hK=>?_|refine goB rfl fun K hK=>?_|refine goC rfl rfl fun K hK=>?_|refine goD rfl rfl fun K hK=>?_);simp (dsimp:=false) only [↓gq,↓stepP,↓stepG,go_sem])|refine Pwp.seq ?_|refine Pwp.block ?_|(refine Pwp.exit ?_;simp only [thenS,blockS,if_true,if_false,reduceIte,Nat.reduceEqDiff,Nat.add_one_ne_zero,reduceCtorEq])|(refine Pwp.skip ?_;simp only [thenS,blockS])|(refine Pwp.cond rfl True.intro (fun h=>?_) (fun h=>?_)<;>(try (cases h;done))<;>(try simp only [h]))|refine Pwp.ret ?_|(refine hK _ ?_;clear hK K)|(refine hK _ _ rfl ?_;clear hK K)|refine CallG.off ?_|with_reducible refine Or.inl ?_|simp only [thenS,blockS]|with_reducible refine And.intro ?_ ?_|with_reducible exact True.intro|simp (dsimp:=false) only [↓gq,↓stepP,↓stepG,go_sem])
      all_goals (try (first|(intro hg;simp_all;done)|(intro hg;simp [hg];done)|exact of_decide_eq_true rfl|(cases h;done)))
      refine Fin.nil (.inr rfl) rfl ?_
      exact ⟨True.intro, True.intro⟩
    | some ad =>
      refine Runs.of (kit Try.prog) Try.func210 rfl rfl (by rw [Try.ntmps210]; exact of_decide_eq_true rfl) ?_; rw [Try.ntmps210, Try.results210]
      repeat' (first|((first|refine goA rfl fun K hK=>?_|refine goB rfl fun K hK=>?_|refine goC rfl rfl fun K hK=>?_|refine goD rfl rfl fun K hK=>?_);simp (dsimp:=false) only [↓gq,↓stepP,↓stepG,go_sem])|refine Pwp.seq ?_|refine Pwp.block ?_|(refine Pwp.exit ?_;simp only [thenS,blockS,if_true,if_false,reduceIte,Nat.reduceEqDiff,Nat.add_one_ne_zero,reduceCtorEq])|(refine Pwp.skip ?_;simp only [thenS,blockS])|(refine Pwp.cond rfl True.intro (fun h=>?_) (fun h=>?_)<;>(try (cases h;done))<;>(try simp only [h]))|refine Pwp.ret ?_|(refine hK _ ?_;clear hK K)|(refine hK _ _ rfl ?_;clear hK K)|refine CallG.off ?_|with_reducible refine Or.inl ?_|simp only [thenS,blockS]|with_reducible refine And.intro ?_ ?_|with_reducible exact True.intro|simp (dsimp:=false) only [↓gq,↓stepP,↓stepG,go_sem])
      all_goals (try (first|(intro hg;simp_all;done)|(intro hg;simp [hg];done)|exact of_decide_eq_true rfl|(cases h;done)))
      all_goals (try (first | exact ho | (simp [maxLen]; done)))
      refine Fin.row (els := []) (.inr rfl) rfl ?_ rfl rfl
      exact ⟨True.intro, True.intro⟩
end Go.Proofs.Ytdodgbhodkcckaa.Pv
end
section
set_option linter.unusedVariables false
set_option linter.unusedSimpArgs false
set_option autoImplicit false
set_option maxRecDepth 100000
namespace Go.Proofs.Ytdodgbhodkcckaa.Pv
open Go Go.RowKit
def hrD (d : DRun) (k : Nat) : List D := [.v (.bool (d.off.getD k false)), .v (.bool (d.vot.getD k false)), .slc 4 (linesD (d.ofs.getD k []))]
def frD (n : Nat) (d : DRun) : List D := (List.range n).map fun k => .agg (hrD d k)
def runC (n : Nat) (d : DRun) : List D := [I64 d.cur, I64 d.st, .slc 3 (frD n d), .slc 4 (linesD d.ls), .slc 1 (d.ns.map I64)]
def runsC (n : Nat) (rs : List DRun) : List D := rs.map fun d => .agg (runC n d)
def chD (n : Nat) (rs : List DRun) : D := .agg [I64 n, .slc 5 (runsC n rs)]
def cOutD (n : Nat) (r : DOut) : D := .tup [chD n r.rs, .slc 12 (sentsD r.o), I64 r.e]
theorem frD_len (n : Nat) (d : DRun) : (frD n d).length = n := by simp [frD]
theorem frD_get {n k : Nat} (h : k < n) (d : DRun) : (frD n d)[k]? = some (.agg [.v (.bool (d.off.getD k false)), .v (.bool (d.vot.getD k false)), .slc 4 (linesD (d.ofs.getD k []))]) := by simp [frD, h, hrD]
theorem frD_one (n : Nat) (d : DRun) : ∀ x ∈ frD n d, x.cells.all D.one = true := by
  intro x hx
  simp only [frD, List.mem_map] at hx
  obtain ⟨k, _, rfl⟩ := hx
  rfl
theorem runsC_len (n : Nat) (rs : List DRun) : (runsC n rs).length = rs.length := by simp [runsC]
theorem runsC_get {n i : Nat} {rs : List DRun} {d : DRun} (h : rs[i]? = some d) : (runsC n rs)[i]? = some (.agg [I64 d.cur, I64 d.st, .slc 3 (frD n d), .slc 4 (linesD d.ls), .slc 1 (d.ns.map I64)]) := by simp [runsC, h, runC]
theorem runsC_one (n : Nat) (rs : List DRun) : ∀ x ∈ runsC n rs, x.cells.all D.one = true := by
  intro x hx
  simp only [runsC, List.mem_map] at hx
  obtain ⟨k, _, rfl⟩ := hx
  rfl
theorem runsC_set (n : Nat) (rs : List DRun) (i : Nat) (d : DRun) : runsC n (rs.set i d) = (runsC n rs).set i (.agg (runC n d)) := by simp [runsC, List.map_set]
theorem getD_set_self {α : Type} {l : List α} {f : Nat} (h : f < l.length) (x z : α) : (l.set f x).getD f z = x := by
  rw [List.getD_eq_getElem?_getD, List.getElem?_set_self h]; rfl
theorem getD_set_ne {α : Type} {l : List α} {f k : Nat} (h : f ≠ k) (x z : α) : (l.set f x).getD k z = l.getD k z := by
  rw [List.getD_eq_getElem?_getD, List.getElem?_set_ne h, ← List.getD_eq_getElem?_getD]
theorem frD_offB {n f : Nat} {d : DRun} (hf : f < n) (h1 : f < d.off.length) (h2 : f < d.ofs.length) (ls : List Line) :
    frD n (offB d f ls) = (frD n d).set f (.agg [.v (.bool true), .v (.bool (d.vot.getD f false)), .slc 4 (linesD ls)]) := by
  apply List.ext_getElem?
  intro k
  by_cases hk : k < n
  · rw [frD_get hk]
    by_cases he : f = k
    · subst he
      rw [List.getElem?_set_self (by rw [frD_len]; exact hk)]
      simp only [offB]
      rw [getD_set_self h1, getD_set_self h2]
    · rw [List.getElem?_set_ne he, frD_get hk]
      simp only [offB]
      rw [getD_set_ne he, getD_set_ne he]
  · rw [List.getElem?_eq_none (by rw [frD_len]; omega), List.getElem?_eq_none (by rw [List.length_set, frD_len]; omega)]
theorem frD_votB {n f : Nat} {d : DRun} (hf : f < n) (h1 : f < d.vot.length) :
    frD n (votB d f) = (frD n d).set f (.agg [.v (.bool (d.off.getD f false)), .v (.bool true), .slc 4 (linesD (d.ofs.getD f []))]) := by
  apply List.ext_getElem?
  intro k
  by_cases hk : k < n
  · rw [frD_get hk]
    by_cases he : f = k
    · subst he
      rw [List.getElem?_set_self (by rw [frD_len]; exact hk)]
      simp only [votB]
      rw [getD_set_self h1]
    · rw [List.getElem?_set_ne he, frD_get hk]
      simp only [votB]
      rw [getD_set_ne he]
  · rw [List.getElem?_eq_none (by rw [frD_len]; omega), List.getElem?_eq_none (by rw [List.length_set, frD_len]; omega)]
theorem run151 (d : DRun) (x : D) (y z : D) : Runs Try.prog 151 [.d (.agg [I64 d.cur, I64 d.st, x, y, z])] [] (pbool (openR d)) [] := by
  unfold openR
  refine Runs.of (kit Try.prog) Try.func151 rfl rfl (by rw [Try.ntmps151]; exact of_decide_eq_true rfl) ?_; rw [Try.ntmps151, Try.results151]
  repeat' (first|((first|refine goA rfl fun K hK=>?_|refine goB rfl fun K hK=>?_|refine goC rfl rfl fun K hK=>?_|refine goD rfl rfl fun K hK=>?_);simp (dsimp:=false) only [↓gq,↓stepP,↓stepG,go_sem])|refine Pwp.seq ?_|refine Pwp.block ?_|(refine Pwp.exit ?_;simp only [thenS,blockS,if_true,if_false,reduceIte,Nat.reduceEqDiff,Nat.add_one_ne_zero,reduceCtorEq])|(refine Pwp.skip ?_;simp only [thenS,blockS])|(refine Pwp.cond rfl True.intro (fun h=>?_) (fun h=>?_)<;>(try (cases h;done))<;>(try simp only [h]))|refine Pwp.ret ?_|(refine hK _ ?_;clear hK K)|(refine hK _ _ rfl ?_;clear hK K)|refine CallG.off ?_|with_reducible refine Or.inl ?_|simp only [thenS,blockS]|with_reducible refine And.intro ?_ ?_|with_reducible exact True.intro|simp (dsimp:=false) only [↓gq,↓stepP,↓stepG,go_sem])
  all_goals (try (first|(intro hg;simp [hg];done)|exact of_decide_eq_true rfl|(cases h;done)))
  all_goals (try (intro hg; simp only [hg, Bool.not_false, Bool.not_true, Bool.and_self, Bool.true_and, Bool.and_true, true_and, and_self, imp_self, implies_true]; done))
  (refine Fin.data (.inr rfl) (by simp (dsimp:=false) only [↓gq,↓stepP,↓stepG,go_sem,resL]; rfl) (by simp only [and_self]) (by simp (dsimp:=false) only [↓gq,↓stepP,↓stepG,go_sem,resP,Nat.le_refl,List.take_length]; try rfl) ?_)
  exact subD_refl _
theorem run205 (n : Nat) (rs : List DRun) (c : Int) (d : DRun) (hl : rs.length ≤ 100000) (h1 : 1 ≤ c) (h2 : c ≤ (rs.length : Int)) :
    Runs Try.prog 205 [.d (chD n rs), pint .i64 c, .d (.agg (runC n d))] [] (.d (chD n (cPut rs c d))) [] := by
  have r203 := run203 (runsC n rs) (runsC_one n rs) (by rw [runsC_len]; omega)
  have hlen := runsC_len n rs
  have w1 : IntKind.i64.wrap (c - 1) = c - 1 := wrap_of (by omega) (by omega)
  have p0 : (0 : Int) ≤ c - 1 := by omega
  have hk : (c - 1).toNat < rs.length := by omega
  obtain ⟨y, hy, hm⟩ := at_lt hk
  have hg := runsC_get (n := n) hy
  have hst := runsC_set n rs (c - 1).toNat d
  have hle : ((runsC n rs).set (c - 1).toNat (.agg (runC n d))).length = rs.length := by rw [List.length_set, hlen]
  have htk : ((runsC n rs).set (c - 1).toNat (.agg (runC n d))).take rs.length = runsC n (cPut rs c d) := by unfold cPut; rw [hst, List.take_of_length_le (by omega)]
  rw [hlen] at r203
  unfold chD
  unfold runC at *
  refine Runs.of (kit Try.prog) Try.func205 rfl rfl (by rw [Try.ntmps205]; exact of_decide_eq_true rfl) ?_; rw [Try.ntmps205, Try.results205]
  repeat' (first|((first|refine goA rfl fun K hK=>?_|refine goB rfl fun K hK=>?_|refine goC rfl rfl fun K hK=>?_|refine goD rfl rfl fun K hK=>?_);simp (dsimp:=false) only [↓gq,↓stepP,↓stepG,go_sem,hlen,w1,hg,hk,p0])|refine Pwp.seq ?_|refine Pwp.block ?_|(refine Pwp.exit ?_;simp only [thenS,blockS,if_true,if_false,reduceIte,Nat.reduceEqDiff,Nat.add_one_ne_zero,reduceCtorEq])|(refine Pwp.skip ?_;simp only [thenS,blockS])|(refine Pwp.cond rfl True.intro (fun h=>?_) (fun h=>?_)<;>(try (cases h;done))<;>(try simp only [h]))|refine Pwp.ret ?_|(refine hK _ ?_;clear hK K)|(refine hK _ _ rfl ?_;clear hK K)|(refine CallK.give (ds:=[.slc 5 (runsC n rs)]) rfl (r203) (by simp) ?_)|refine CallG.off ?_|with_reducible refine Or.inl ?_|simp only [thenS,blockS]|with_reducible refine And.intro ?_ ?_|with_reducible exact True.intro|simp (dsimp:=false) only [↓gq,↓stepP,↓stepG,go_sem,hlen,w1,hg,hk,p0])
  all_goals (try (first|(intro hg;simp [hg];done)|exact of_decide_eq_true rfl|(cases h;done)))
  (refine Fin.data (.inr rfl) (by simp (dsimp:=false) only [↓gq,↓stepP,↓stepG,go_sem,resL,hle,htk,Nat.le_refl]; rfl) (by simp only [and_self]) (by simp (dsimp:=false) only [↓gq,↓stepP,↓stepG,go_sem,resP,Nat.le_refl,List.take_length,hle,htk,Nat.le_refl]; try rfl) ?_)
  exact subD_refl _
def L204 (n : Nat) (rs : List DRun) (m : VMsg) (i : Nat) : St :=
  ⟨[(10, pint .i64 i), (9, pint .i64 n), (5, .own 60 0 12 0 i), (3, .ref 9 0)], [(9, .box [.d (I64 m.kind), .d (I64 m.seller), .d (I64 m.number), .d (I64 m.buyer), .d (I64 m.currency), .d (I64 m.round), .d (I64 m.cycle), .d (I64 m.amount), .d (.v (.bool m.yes)), .d (.slc 4 (linesD m.ls)), .d (.slc 1 (m.ns.map I64))]), (60, .arr 110 12 0 none (sentsD (allV i m)))], 100⟩
theorem allV_succ (i : Nat) (m : VMsg) : sentsD (allV (i + 1) m) = sentsD (allV i m) ++ [.agg [I64 i, I64 m.kind, I64 m.seller, I64 m.number, I64 m.buyer, I64 m.currency, I64 m.round, I64 m.cycle, I64 m.amount, .v (.bool m.yes), .slc 4 (linesD m.ls), .slc 1 (m.ns.map I64)]] := by
  unfold sentsD allV
  rw [List.range_succ, List.map_append, List.map_append]
  rfl
theorem allV_len (i : Nat) (m : VMsg) : (sentsD (allV i m)).length = i := by simp [sentsD, allV]
set_option maxHeartbeats 8000000 in
theorem run204 (n : Nat) (rs : List DRun) (m : VMsg) (hn : n ≤ 8) (hl : m.ls.length ≤ 100000) (hns : m.ns.length ≤ 100000) :
    Runs Try.prog 204 [.d (chD n rs), .d m.msg.d] [] (.d (.slc 12 (sentsD (allV n m)))) [] := by
  have hll := lines_len m.ls
  have hnl : (m.ns.map I64).length = m.ns.length := by simp
  have r133 := run133 (linesD m.ls) (lines_one m.ls) (by omega)
  have r211 := run211 (m.ns.map I64) (by intro d hd; obtain ⟨x, _, rfl⟩ := List.mem_map.1 hd; rfl) (by omega)
  rw [hll] at r133
  rw [hnl] at r211
  unfold chD VMsg.msg Msg.d Msg.cells
  refine Runs.of (kit Try.prog) Try.func204 rfl rfl (by rw [Try.ntmps204]; exact of_decide_eq_true rfl) ?_; rw [Try.ntmps204, Try.results204]
  repeat' (first|((first|refine goA rfl fun K hK=>?_|refine goB rfl fun K hK=>?_|refine goC rfl rfl fun K hK=>?_|refine goD rfl rfl fun K hK=>?_);simp (dsimp:=false) only [↓gq,↓stepP,↓stepG,go_sem])|refine Pwp.seq ?_|refine Pwp.block ?_|(refine Pwp.exit ?_;simp only [thenS,blockS,if_true,if_false,reduceIte,Nat.reduceEqDiff,Nat.add_one_ne_zero,reduceCtorEq])|(refine Pwp.skip ?_;simp only [thenS,blockS])|(refine Pwp.cond rfl True.intro (fun h=>?_) (fun h=>?_)<;>(try (cases h;done))<;>(try simp only [h]))|refine Pwp.ret ?_|(refine hK _ ?_;clear hK K)|(refine hK _ _ rfl ?_;clear hK K)|refine CallG.off ?_|with_reducible refine Or.inl ?_|simp only [thenS,blockS]|with_reducible refine And.intro ?_ ?_|with_reducible exact True.intro|simp (dsimp:=false) only [↓gq,↓stepP,↓stepG,go_sem])
  all_goals (try (first|(intro hg;simp [hg];done)|exact of_decide_eq_true rfl|(cases h;done)))
  refine Pwp.range n (S := L204 n rs m) (Sub.view (VN 60) (by simp [L204]) rfl (by simp [L204,sentsD,allV]) (by simp [L204,sentsD,allV])) (fun i hi => ?_) ?_
  · have c1 := dlt hi
    have w1 := wrap_succ (i := i) (by omega)
    have hal := allV_len i m
    have hsu := allV_succ i m
    have htk : (sentsD (allV i m)).take i = sentsD (allV i m) := List.take_of_length_le (by omega)
    unfold L204
    repeat' (first|((first|refine goA rfl fun K hK=>?_|refine goB rfl fun K hK=>?_|refine goC rfl rfl fun K hK=>?_|refine goD rfl rfl fun K hK=>?_);simp (dsimp:=false) only [↓gq,↓stepP,↓stepG,go_sem,c1,w1,hal,htk,hll,hnl,List.take_of_length_le,Nat.le_refl])|refine Pwp.seq ?_|refine Pwp.block ?_|(refine Pwp.exit ?_;simp only [thenS,blockS,if_true,if_false,reduceIte,Nat.reduceEqDiff,Nat.add_one_ne_zero,reduceCtorEq])|(refine Pwp.skip ?_;simp only [thenS,blockS])|(refine Pwp.cond rfl True.intro (fun h=>?_) (fun h=>?_)<;>(try (cases h;done))<;>(try simp only [h]))|refine Pwp.ret ?_|(refine hK _ ?_;clear hK K)|(refine hK _ _ rfl ?_;clear hK K)|(refine CallK.give (ds:=[.slc 4 (linesD m.ls)]) rfl (r133) (by simp) ?_)|(refine CallK.give (ds:=[.slc 1 (m.ns.map I64)]) rfl (r211) (by simp) ?_)|refine CallG.off ?_|with_reducible refine Or.inl ?_|simp only [thenS,blockS]|with_reducible refine And.intro ?_ ?_|with_reducible exact True.intro|simp (dsimp:=false) only [↓gq,↓stepP,↓stepG,go_sem,c1,w1,hal,htk,hll,hnl,List.take_of_length_le,Nat.le_refl])
    all_goals (try (first|(intro hg;simp [hg];done)|exact of_decide_eq_true rfl|(cases h;done)))
    all_goals (try (first | omega | (simp [maxLen]; omega) | (simp [hal]; done)))
    exact Sub.view (VR 60 1) (by simp [L204]) rfl (by simp [L204,hsu,hll,hnl]) (by simp [L204,hsu,hll,hnl])
  · have c1 := dge (Nat.le_refl n)
    have hal := allV_len n m
    have htk : (sentsD (allV n m)).take n = sentsD (allV n m) := List.take_of_length_le (by omega)
    unfold L204
    repeat' (first|((first|refine goA rfl fun K hK=>?_|refine goB rfl fun K hK=>?_|refine goC rfl rfl fun K hK=>?_|refine goD rfl rfl fun K hK=>?_);simp (dsimp:=false) only [↓gq,↓stepP,↓stepG,go_sem,c1,hal,htk])|refine Pwp.seq ?_|refine Pwp.block ?_|(refine Pwp.exit ?_;simp only [thenS,blockS,if_true,if_false,reduceIte,Nat.reduceEqDiff,Nat.add_one_ne_zero,reduceCtorEq])|(refine Pwp.skip ?_;simp only [thenS,blockS])|(refine Pwp.cond rfl True.intro (fun h=>?_) (fun h=>?_)<;>(try (cases h;done))<;>(try simp only [h]))|refine Pwp.ret ?_|(refine hK _ ?_;clear hK K)|(refine hK _ _ rfl ?_;clear hK K)|refine CallG.off ?_|with_reducible refine Or.inl ?_|simp only [thenS,blockS]|with_reducible refine And.intro ?_ ?_|with_reducible exact True.intro|simp (dsimp:=false) only [↓gq,↓stepP,↓stepG,go_sem,c1,hal,htk])
    all_goals (try (first|(intro hg;simp [hg];done)|exact of_decide_eq_true rfl|(cases h;done)))
    (refine Fin.data (.inr rfl) (by simp (dsimp:=false) only [↓gq,↓stepP,↓stepG,go_sem,resL,hal,htk]; rfl) (by simp only [and_self]) (by simp (dsimp:=false) only [↓gq,↓stepP,↓stepG,go_sem,resP,Nat.le_refl,List.take_length,hal,htk]; try rfl) ?_)
    exact subD_refl _
end Go.Proofs.Ytdodgbhodkcckaa.Pv
end
section
set_option linter.unusedVariables false
set_option linter.unusedSimpArgs false
set_option autoImplicit false
set_option maxRecDepth 100000
namespace Go.Proofs.Ytdodgbhodkcckaa.Pv
open Go Go.RowKit
def runP (id n : Nat) (d : DRun) : PVal := .agg [.d (I64 d.cur), .d (I64 d.st), .own id 0 3 0 n, .d (.slc 4 (linesD d.ls)), .d (.slc 1 (d.ns.map I64))]
def L157 (n : Nat) (d : DRun) (i : Nat) : St :=
  ⟨[(11, pint .i64 i), (10, pint .i64 n), (2, .ref 9 0), (1, .ref 8 0)], [(8, .box [.d (I64 d.cur), .d (I64 d.st), .own 18 0 3 0 n, .d (.slc 4 (linesD d.ls)), .d (.slc 1 (d.ns.map I64))]), (9, .box [.d (I64 0), .d (I64 0), .d nilD, .d nilD, .d nilD]), (18, .arr 193 3 0 none (frD n d))], 52⟩
set_option maxHeartbeats 16000000 in
theorem run157 (n : Nat) (d : DRun) (hn : n ≤ 8) (hd : RunOK n d) : Runs Try.prog 157 [.d (.agg (runC n d))] [] (runP 8 n d) [(8, .arr 193 3 0 none (frD n d))] := by
  have hl := hd.ls
  have hns := hd.ns
  have hll := lines_len d.ls
  have hnl : (d.ns.map I64).length = d.ns.length := by simp
  have hfl := frD_len n d
  have r133 := run133 (linesD d.ls) (lines_one d.ls) (by omega)
  have r211 := run211 (d.ns.map I64) (by intro d hd; obtain ⟨x, _, rfl⟩ := List.mem_map.1 hd; rfl) (by omega)
  have r210 := run210 (frD n d) (frD_one n d) (by rw [hfl]; omega)
  rw [hll] at r133
  rw [hnl] at r211
  rw [hfl] at r210
  unfold runC runP
  refine Runs.of (kit Try.prog) Try.func157 rfl rfl (by rw [Try.ntmps157]; exact of_decide_eq_true rfl) ?_; rw [Try.ntmps157, Try.results157]
  repeat' (first|((first|refine goA rfl fun K hK=>?_|refine goB rfl fun K hK=>?_|refine goC rfl rfl fun K hK=>?_|refine goD rfl rfl fun K hK=>?_);simp (dsimp:=false) only [↓gq,↓stepP,↓stepG,go_sem,hfl])|refine Pwp.seq ?_|refine Pwp.block ?_|(refine Pwp.exit ?_;simp only [thenS,blockS,if_true,if_false,reduceIte,Nat.reduceEqDiff,Nat.add_one_ne_zero,reduceCtorEq])|(refine Pwp.skip ?_;simp only [thenS,blockS])|(refine Pwp.cond rfl True.intro (fun h=>?_) (fun h=>?_)<;>(try (cases h;done))<;>(try simp only [h]))|refine Pwp.ret ?_|(refine hK _ ?_;clear hK K)|(refine hK _ _ rfl ?_;clear hK K)|(refine CallK.give (ds:=[.slc 3 (frD n d)]) rfl (r210) (by simp) ?_)|refine CallG.off ?_|with_reducible refine Or.inl ?_|simp only [thenS,blockS]|with_reducible refine And.intro ?_ ?_|with_reducible exact True.intro|simp (dsimp:=false) only [↓gq,↓stepP,↓stepG,go_sem,hfl])
  all_goals (try (first|(intro hg;simp [hg];done)|exact of_decide_eq_true rfl|(cases h;done)))
  refine Pwp.range n (S := L157 n d) (Sub.view V0 (by simp [L157]) rfl (by simp [L157]) (by simp [L157])) (fun i hi => ?_) ?_
  · have c1 := dlt hi
    have w1 := wrap_succ (i := i) (by omega)
    have hg := frD_get hi d
    have hle : (d.ofs.getD i []).length ≤ 100 := by
      rw [List.getD_eq_getElem?_getD]
      cases h : d.ofs[i]? with
      | none => simp
      | some o => exact (hd.fit o (List.mem_of_getElem? h)).2
    have hlo := lines_len (d.ofs.getD i [])
    have r1 := run133 (linesD (d.ofs.getD i [])) (lines_one _) (by omega)
    have htk : (linesD (d.ofs.getD i [])).take (d.ofs.getD i []).length = linesD (d.ofs.getD i []) := List.take_of_length_le (by omega)
    rw [hlo] at r1
    have hset : (frD n d).set i (.agg [.v (.bool (d.off.getD i false)), .v (.bool (d.vot.getD i false)), .slc 4 (linesD (d.ofs.getD i []))]) = frD n d := by
      obtain ⟨k1, k2⟩ := List.getElem?_eq_some_iff.1 hg
      conv => lhs; arg 3; rw [← k2]
      exact List.set_getElem_self k1
    unfold L157
    repeat' (first|((first|refine goA rfl fun K hK=>?_|refine goB rfl fun K hK=>?_|refine goC rfl rfl fun K hK=>?_|refine goD rfl rfl fun K hK=>?_);simp (dsimp:=false) only [↓gq,↓stepP,↓stepG,go_sem,c1,w1,hg,hi,hlo,htk,Nat.le_refl])|refine Pwp.seq ?_|refine Pwp.block ?_|(refine Pwp.exit ?_;simp only [thenS,blockS,if_true,if_false,reduceIte,Nat.reduceEqDiff,Nat.add_one_ne_zero,reduceCtorEq])|(refine Pwp.skip ?_;simp only [thenS,blockS])|(refine Pwp.cond rfl True.intro (fun h=>?_) (fun h=>?_)<;>(try (cases h;done))<;>(try simp only [h]))|refine Pwp.ret ?_|(refine hK _ ?_;clear hK K)|(refine hK _ _ rfl ?_;clear hK K)|(refine CallK.give (ds:=[.slc 4 (linesD (d.ofs.getD i []))]) rfl (r1) (by simp) ?_)|refine CallG.off ?_|with_reducible refine Or.inl ?_|simp only [thenS,blockS]|with_reducible refine And.intro ?_ ?_|with_reducible exact True.intro|simp (dsimp:=false) only [↓gq,↓stepP,↓stepG,go_sem,c1,w1,hg,hi,hlo,htk,Nat.le_refl])
    all_goals (try (first|(intro hg;simp [hg];done)|exact of_decide_eq_true rfl|(cases h;done)))
    have hset2 := hset
    simp only [List.getD_eq_getElem?_getD] at hset2
    exact Sub.view V0 (by simp [L157]) rfl (by simp [L157,hset,hset2]) (by simp [L157,hset,hset2])
  · have c1 := dge (Nat.le_refl n)
    unfold L157
    repeat' (first|((first|refine goA rfl fun K hK=>?_|refine goB rfl fun K hK=>?_|refine goC rfl rfl fun K hK=>?_|refine goD rfl rfl fun K hK=>?_);simp (dsimp:=false) only [↓gq,↓stepP,↓stepG,go_sem,c1])|refine Pwp.seq ?_|refine Pwp.block ?_|(refine Pwp.exit ?_;simp only [thenS,blockS,if_true,if_false,reduceIte,Nat.reduceEqDiff,Nat.add_one_ne_zero,reduceCtorEq])|(refine Pwp.skip ?_;simp only [thenS,blockS])|(refine Pwp.cond rfl True.intro (fun h=>?_) (fun h=>?_)<;>(try (cases h;done))<;>(try simp only [h]))|refine Pwp.ret ?_|(refine hK _ ?_;clear hK K)|(refine hK _ _ rfl ?_;clear hK K)|(refine CallK.give (ds:=[.slc 4 (linesD d.ls)]) rfl (r133) (by simp) ?_)|(refine CallK.give (ds:=[.slc 1 (d.ns.map I64)]) rfl (r211) (by simp) ?_)|refine CallG.off ?_|with_reducible refine Or.inl ?_|simp only [thenS,blockS]|with_reducible refine And.intro ?_ ?_|with_reducible exact True.intro|simp (dsimp:=false) only [↓gq,↓stepP,↓stepG,go_sem,c1])
    all_goals (try (first|(intro hg;simp [hg];done)|exact of_decide_eq_true rfl|(cases h;done)))
    (refine Fin.valV (V8 18 0) (by first | exact .inr rfl | exact .inl rfl) (by simp (dsimp:=false) only [↓gq,↓stepP,↓stepG,go_sem,resL]; rfl) (by simp only [and_self]) rfl (by simp [pnil, V8, hll, hnl, List.take_of_length_le]) (by simp [resP, toDL, idsL, pnil, V8, hll, hnl, List.take_of_length_le]))
theorem run94n (n : Nat) (rs : List DRun) (c : Int) (h : (decide (c < 1) || decide ((rs.length : Int) < c)) = true) : Runs Try.prog 94 [.d (chD n rs), pint .i64 c] [] (.d (.tup [.agg [I64 0, I64 0, nilD, nilD, nilD], .v (.bool false)])) [] := by
  have hlen := runsC_len n rs
  unfold chD
  refine Runs.of (kit Try.prog) Try.func94 rfl rfl (by rw [Try.ntmps94]; exact of_decide_eq_true rfl) ?_; rw [Try.ntmps94, Try.results94]
  repeat' (first|((first|refine goA rfl fun K hK=>?_|refine goB rfl fun K hK=>?_|refine goC rfl rfl fun K hK=>?_|refine goD rfl rfl fun K hK=>?_);simp (dsimp:=false) only [↓gq,↓stepP,↓stepG,go_sem,hlen,h])|refine Pwp.seq ?_|refine Pwp.block ?_|(refine Pwp.exit ?_;simp only [thenS,blockS,if_true,if_false,reduceIte,Nat.reduceEqDiff,Nat.add_one_ne_zero,reduceCtorEq])|(refine Pwp.skip ?_;simp only [thenS,blockS])|(refine Pwp.cond rfl True.intro (fun h=>?_) (fun h=>?_)<;>(try (cases h;done))<;>(try simp only [h]))|refine Pwp.ret ?_|(refine hK _ ?_;clear hK K)|(refine hK _ _ rfl ?_;clear hK K)|refine CallG.off ?_|with_reducible refine Or.inl ?_|simp only [thenS,blockS]|with_reducible refine And.intro ?_ ?_|with_reducible exact True.intro|simp (dsimp:=false) only [↓gq,↓stepP,↓stepG,go_sem,hlen,h])
  all_goals (try (first|(intro hg;simp [hg];done)|exact of_decide_eq_true rfl|(cases h;done)))
  all_goals (try (intro hg; simp only [hg, Bool.not_false, Bool.not_true, Bool.and_self, Bool.true_and, Bool.and_true, true_and, and_self, imp_self, implies_true]; done))
  (refine Fin.data (.inr rfl) (by simp (dsimp:=false) only [↓gq,↓stepP,↓stepG,go_sem,resL]; rfl) (by simp only [and_self]) (by simp (dsimp:=false) only [↓gq,↓stepP,↓stepG,go_sem,resP,Nat.le_refl,List.take_length]; try rfl) ?_)
  exact subD_refl _
set_option maxHeartbeats 8000000 in
theorem run94 (n : Nat) (rs : List DRun) (c : Int) (hn : n ≤ 8) (hr : RunsOK n rs) (hl : rs.length ≤ 100000) (h : (decide (c < 1) || decide ((rs.length : Int) < c)) = false) :
    Runs Try.prog 94 [.d (chD n rs), pint .i64 c] [] (.tup [runP 8 n (atR rs c), .d (.v (.bool true))]) [(8, .arr 193 3 0 none (frD n (atR rs c)))] := by
  have hlen := runsC_len n rs
  have h2 := h
  simp only [Bool.or_eq_false_iff, decide_eq_false_iff_not] at h2
  have w1 : IntKind.i64.wrap (c - 1) = c - 1 := wrap_of (by omega) (by omega)
  have p0 : (0 : Int) ≤ c - 1 := by omega
  obtain ⟨y, hy, hm⟩ := at_lt (l := rs) (i := (c - 1).toNat) (by omega)
  have hat : atR rs c = y := by unfold atR; rw [hy]; rfl
  have hg := runsC_get (n := n) hy
  have r157 := run157 n y hn (hr y hm)
  rw [hat]
  unfold chD
  unfold runC runP at *
  refine Runs.of (kit Try.prog) Try.func94 rfl rfl (by rw [Try.ntmps94]; exact of_decide_eq_true rfl) ?_; rw [Try.ntmps94, Try.results94]
  repeat' (first|((first|refine goA rfl fun K hK=>?_|refine goB rfl fun K hK=>?_|refine goC rfl rfl fun K hK=>?_|refine goD rfl rfl fun K hK=>?_);simp (dsimp:=false) only [↓gq,↓stepP,↓stepG,go_sem,hlen,h,w1,p0,hg])|refine Pwp.seq ?_|refine Pwp.block ?_|(refine Pwp.exit ?_;simp only [thenS,blockS,if_true,if_false,reduceIte,Nat.reduceEqDiff,Nat.add_one_ne_zero,reduceCtorEq])|(refine Pwp.skip ?_;simp only [thenS,blockS])|(refine Pwp.cond rfl True.intro (fun h=>?_) (fun h=>?_)<;>(try (cases h;done))<;>(try simp only [h]))|refine Pwp.ret ?_|(refine hK _ ?_;clear hK K)|(refine hK _ _ rfl ?_;clear hK K)|(refine CallK.give (ds:=[.agg [I64 y.cur, I64 y.st, .slc 3 (frD n y), .slc 4 (linesD y.ls), .slc 1 (y.ns.map I64)]]) rfl (r157) (by simp) ?_)|refine CallG.off ?_|with_reducible refine Or.inl ?_|simp only [thenS,blockS]|with_reducible refine And.intro ?_ ?_|with_reducible exact True.intro|simp (dsimp:=false) only [↓gq,↓stepP,↓stepG,go_sem,hlen,h,w1,p0,hg])
  all_goals (try (first|(intro hg;simp [hg];done)|exact of_decide_eq_true rfl|(cases h;done)))
  all_goals (try (intro hg; simp only [hg, Bool.not_false, Bool.not_true, Bool.and_self, Bool.true_and, Bool.and_true, true_and, and_self, imp_self, implies_true]; done))
  (refine Fin.valV (V8 62 0) (by first | exact .inr rfl | exact .inl rfl) (by simp (dsimp:=false) only [↓gq,↓stepP,↓stepG,go_sem,resL]; rfl) (by simp only [and_self]) rfl (by simp [pnil, V8]) (by simp [resP, toDL, idsL, pnil, V8]))
set_option maxHeartbeats 8000000 in
theorem run152 (n : Nat) (rs : List DRun) (c : Int) (d : DRun) (yes : Bool) (hn : n ≤ 8) (hl : rs.length ≤ 100000) (h1 : 1 ≤ c) (h2 : c ≤ (rs.length : Int)) :
    Runs Try.prog 152 [.d (chD n rs), pint .i64 c, .d (.agg (runC n d)), pint .i64 (if yes = true then 3 else 4)] [] (.d (cOutD n (cEnd n rs c d yes))) [] := by
  have r205 := run205 n rs c { d with st := if yes = true then 3 else 4 } hl h1 h2
  have r204 := run204 n rs (decV c yes) hn (by simp [decV]) (by simp [decV])
  have e1 : cOutD n (cEnd n rs c d yes) = .tup [chD n (cPut rs c { d with st := if yes = true then 3 else 4 }), .slc 12 (sentsD (allV n (decV c yes))), I64 0] := rfl
  have hfr : frD n { d with st := if yes = true then 3 else 4 } = frD n d := rfl
  rw [e1]
  generalize cPut rs c _ = X at *
  generalize sentsD _ = Y at *
  unfold runC at *
  rw [hfr] at r205
  unfold chD VMsg.msg decV Msg.d Msg.cells at *
  simp only at r204 r205
  have q3 : ((3 : Int) == 3) = true := rfl
  have q4 : ((4 : Int) == 3) = false := rfl
  cases yes with
  | true =>
    simp only [if_true] at *
    refine Runs.of (kit Try.prog) Try.func152 rfl rfl (by rw [Try.ntmps152]; exact of_decide_eq_true rfl) ?_; rw [Try.ntmps152, Try.results152]
    repeat' (first|((first|refine goA rfl fun K hK=>?_|refine goB rfl fun K hK=>?_|refine goC rfl rfl fun K hK=>?_|refine goD rfl rfl fun K hK=>?_);simp (dsimp:=false) only [↓gq,↓stepP,↓stepG,go_sem,q3])|refine Pwp.seq ?_|refine Pwp.block ?_|(refine Pwp.exit ?_;simp only [thenS,blockS,if_true,if_false,reduceIte,Nat.reduceEqDiff,Nat.add_one_ne_zero,reduceCtorEq])|(refine Pwp.skip ?_;simp only [thenS,blockS])|(refine Pwp.cond rfl True.intro (fun h=>?_) (fun h=>?_)<;>(try (cases h;done))<;>(try simp only [h]))|refine Pwp.ret ?_|(refine hK _ ?_;clear hK K)|(refine hK _ _ rfl ?_;clear hK K)|(refine CallK.giveS (ds:=[.agg [I64 n, .slc 5 (runsC n rs)], .agg [I64 14, I64 0, I64 0, I64 0, I64 0, I64 0, I64 c, I64 0, .v (.bool true), nilD, nilD]]) (es:=[.agg [I64 n, .slc 5 (runsC n rs)], .agg [I64 14, I64 0, I64 0, I64 0, I64 0, I64 0, I64 c, I64 0, .v (.bool true), .slc 4 (linesD []), .slc 1 (List.map I64 [])]]) rfl (by simp [subL, subD, subV, subD_refl, linesD]) r204 (by simp) ?_)|(refine CallK.give (ds:=[.agg [I64 n, .slc 5 (runsC n rs)], I64 c, .agg [I64 d.cur, I64 3, .slc 3 (frD n d), .slc 4 (linesD d.ls), .slc 1 (d.ns.map I64)]]) rfl (r205) (by simp) ?_)|refine CallG.off ?_|with_reducible refine Or.inl ?_|simp only [thenS,blockS]|with_reducible refine And.intro ?_ ?_|with_reducible exact True.intro|simp (dsimp:=false) only [↓gq,↓stepP,↓stepG,go_sem,q3])
    all_goals (try (first|(intro hg;simp [hg];done)|exact of_decide_eq_true rfl|(cases h;done)))
    (refine Fin.data (.inr rfl) (by simp (dsimp:=false) only [↓gq,↓stepP,↓stepG,go_sem,resL]; rfl) (by simp only [and_self]) (by simp (dsimp:=false) only [↓gq,↓stepP,↓stepG,go_sem,resP,Nat.le_refl,List.take_length]; try rfl) ?_)
    exact subD_refl _
  | false =>
    simp only [Bool.false_eq_true, if_false] at *
    refine Runs.of (kit Try.prog) Try.func152 rfl rfl (by rw [Try.ntmps152]; exact of_decide_eq_true rfl) ?_; rw [Try.ntmps152, Try.results152]
    repeat' (first|((first|refine goA rfl fun K hK=>?_|refine goB rfl fun K hK=>?_|refine goC rfl rfl fun K hK=>?_|refine goD rfl rfl fun K hK=>?_);simp (dsimp:=false) only [↓gq,↓stepP,↓stepG,go_sem,q4])|refine Pwp.seq ?_|refine Pwp.block ?_|(refine Pwp.exit ?_;simp only [thenS,blockS,if_true,if_false,reduceIte,Nat.reduceEqDiff,Nat.add_one_ne_zero,reduceCtorEq])|(refine Pwp.skip ?_;simp only [thenS,blockS])|(refine Pwp.cond rfl True.intro (fun h=>?_) (fun h=>?_)<;>(try (cases h;done))<;>(try simp only [h]))|refine Pwp.ret ?_|(refine hK _ ?_;clear hK K)|(refine hK _ _ rfl ?_;clear hK K)|(refine CallK.giveS (ds:=[.agg [I64 n, .slc 5 (runsC n rs)], .agg [I64 14, I64 0, I64 0, I64 0, I64 0, I64 0, I64 c, I64 0, .v (.bool false), nilD, nilD]]) (es:=[.agg [I64 n, .slc 5 (runsC n rs)], .agg [I64 14, I64 0, I64 0, I64 0, I64 0, I64 0, I64 c, I64 0, .v (.bool false), .slc 4 (linesD []), .slc 1 (List.map I64 [])]]) rfl (by simp [subL, subD, subV, subD_refl, linesD]) r204 (by simp) ?_)|(refine CallK.give (ds:=[.agg [I64 n, .slc 5 (runsC n rs)], I64 c, .agg [I64 d.cur, I64 4, .slc 3 (frD n d), .slc 4 (linesD d.ls), .slc 1 (d.ns.map I64)]]) rfl (r205) (by simp) ?_)|refine CallG.off ?_|with_reducible refine Or.inl ?_|simp only [thenS,blockS]|with_reducible refine And.intro ?_ ?_|with_reducible exact True.intro|simp (dsimp:=false) only [↓gq,↓stepP,↓stepG,go_sem,q4])
    all_goals (try (first|(intro hg;simp [hg];done)|exact of_decide_eq_true rfl|(cases h;done)))
    (refine Fin.data (.inr rfl) (by simp (dsimp:=false) only [↓gq,↓stepP,↓stepG,go_sem,resL]; rfl) (by simp only [and_self]) (by simp (dsimp:=false) only [↓gq,↓stepP,↓stepG,go_sem,resP,Nat.le_refl,List.take_length]; try rfl) ?_)
    exact subD_refl _
end Go.Proofs.Ytdodgbhodkcckaa.Pv
end
section
set_option linter.unusedVariables false
set_option linter.unusedSimpArgs false
set_option autoImplicit false
set_option maxRecDepth 100000
namespace Go.Proofs.Ytdodgbhodkcckaa.Pv
open Go Go.RowKit
def mcD (m : VMsg) : List D := [I64 m.kind, I64 m.seller, I64 m.number, I64 m.buyer, I64 m.currency, I64 m.round, I64 m.cycle, I64 m.amount, .v (.bool m.yes), .slc 4 (linesD m.ls), .slc 1 (m.ns.map I64)]
def sameO (c : Int) (d : DRun) : Bool := openR d && d.cur == c
theorem run202 (d : DRun) (m : VMsg) (x y z : D) : Runs Try.prog 202 [.d (.agg [I64 d.cur, I64 d.st, x, y, z]), .d (.ptr (mcD m))] [] (pbool (sameO m.currency d)) [] := by
  have r151 := run151 d x y z
  unfold mcD sameO
  generalize openR d = b at *
  refine Runs.of (kit Try.prog) Try.func202 rfl rfl (by rw [Try.ntmps202]; exact of_decide_eq_true rfl) ?_; rw [Try.ntmps202, Try.results202]
  repeat' (first|((first|refine goA rfl fun K hK=>?_|refine goB rfl fun K hK=>?_|refine goC rfl rfl fun K hK=>?_|refine goD rfl rfl fun K hK=>?_);simp (dsimp:=false) only [↓gq,↓stepP,↓stepG,go_sem])|refine Pwp.seq ?_|refine Pwp.block ?_|(refine Pwp.exit ?_;simp only [thenS,blockS,if_true,if_false,reduceIte,Nat.reduceEqDiff,Nat.add_one_ne_zero,reduceCtorEq])|(refine Pwp.skip ?_;simp only [thenS,blockS])|(refine Pwp.cond rfl True.intro (fun h=>?_) (fun h=>?_)<;>(try (cases h;done))<;>(try simp only [h]))|refine Pwp.ret ?_|(refine hK _ ?_;clear hK K)|(refine hK _ _ rfl ?_;clear hK K)|(refine CallK.toD (ds:=[.agg [I64 d.cur, I64 d.st, x, y, z]]) rfl r151 rfl ?_)|refine CallG.off ?_|with_reducible refine Or.inl ?_|simp only [thenS,blockS]|with_reducible refine And.intro ?_ ?_|with_reducible exact True.intro|simp (dsimp:=false) only [↓gq,↓stepP,↓stepG,go_sem])
  all_goals (try (first|(intro hg;simp [hg];done)|exact of_decide_eq_true rfl|(cases h;done)))
  all_goals (try (intro hg; simp only [hg, Bool.not_false, Bool.not_true, Bool.and_self, Bool.true_and, Bool.and_true, true_and, and_self, imp_self, implies_true]; done))
  (refine Fin.data (.inr rfl) (by simp (dsimp:=false) only [↓gq,↓stepP,↓stepG,go_sem,resL]; rfl) (by simp only [and_self]) (by simp (dsimp:=false) only [↓gq,↓stepP,↓stepG,go_sem,resP,Nat.le_refl,List.take_length]; try rfl) ?_)
  exact subD_refl _
def fndB (p : DRun → Bool) : Nat → List DRun → Int
  | _, [] => -1
  | i, y :: l => if p y = true then i else fndB p (i + 1) l
theorem fndB_any (p : DRun → Bool) : ∀ (l : List DRun) (i : Nat), decide (0 ≤ fndB p i l) = l.any p
  | [], i => rfl
  | x :: l, i => by
    rw [fndB, List.any_cons]
    cases hp : p x with
    | true => rw [if_pos rfl, Bool.true_or]; exact decide_eq_true (by omega)
    | false => rw [if_neg (by simp), Bool.false_or]; exact fndB_any p l (i + 1)
def fnO (m : VMsg) : D := .fn (.func 202) [] [.ptr (mcD m)]
def L245 (n : Nat) (rs : List DRun) (m : VMsg) (i : Nat) : St := ⟨[(8, pint .i64 i), (7, pint .i64 rs.length), (1, .d (fnO m)), (0, .d (.slc 5 (runsC n rs)))], [], 24⟩
set_option maxHeartbeats 8000000 in
theorem run245 (n : Nat) (rs : List DRun) (m : VMsg) (hl : rs.length ≤ 100000) : Runs Try.prog 245 [.d (.slc 5 (runsC n rs)), .d (fnO m)] [] (pint .i64 (fndB (sameO m.currency) 0 rs)) [] := by
  have hlen := runsC_len n rs
  unfold fnO
  refine Runs.of (kit Try.prog) Try.func245 rfl rfl (by rw [Try.ntmps245]; exact of_decide_eq_true rfl) ?_; rw [Try.ntmps245, Try.results245]
  repeat' (first|((first|refine goA rfl fun K hK=>?_|refine goB rfl fun K hK=>?_|refine goC rfl rfl fun K hK=>?_|refine goD rfl rfl fun K hK=>?_);simp (dsimp:=false) only [↓gq,↓stepP,↓stepG,go_sem,hlen])|refine Pwp.seq ?_|refine Pwp.block ?_|(refine Pwp.exit ?_;simp only [thenS,blockS,if_true,if_false,reduceIte,Nat.reduceEqDiff,Nat.add_one_ne_zero,reduceCtorEq])|(refine Pwp.skip ?_;simp only [thenS,blockS])|(refine Pwp.cond rfl True.intro (fun h=>?_) (fun h=>?_)<;>(try (cases h;done))<;>(try simp only [h]))|refine Pwp.ret ?_|(refine hK _ ?_;clear hK K)|(refine hK _ _ rfl ?_;clear hK K)|refine CallG.off ?_|with_reducible refine Or.inl ?_|simp only [thenS,blockS]|with_reducible refine And.intro ?_ ?_|with_reducible exact True.intro|simp (dsimp:=false) only [↓gq,↓stepP,↓stepG,go_sem,hlen])
  all_goals (try (first|(intro hg;simp [hg];done)|exact of_decide_eq_true rfl|(cases h;done)))
  refine Pwp.rangeI rs.length (fun i s => fndB (sameO m.currency) i (rs.drop i) = fndB (sameO m.currency) 0 rs ∧ s = L245 n rs m i) (s0 := L245 n rs m 0) (Sub.view V0 (by simp [L245]) rfl (by simp [L245,fnO,hlen]) (by simp [L245,fnO,hlen])) ⟨rfl, rfl⟩ ?_ ?_
  · rintro i s hi ⟨hp, rfl⟩
    obtain ⟨y, hy, hm⟩ := at_lt hi
    have hg := runsC_get (n := n) hy
    have c1 := dlt hi
    have w1 := wrap_succ (i := i) (by omega)
    have r202 := run202 y m (.slc 3 (frD n y)) (.slc 4 (linesD y.ls)) (.slc 1 (y.ns.map I64))
    rw [drop_cons hy, fndB] at hp
    unfold L245 fnO
    cases hc : sameO m.currency y with
    | true =>
      rw [hc, if_pos rfl] at hp
      rw [hc] at r202
      repeat' (first|((first|refine goA rfl fun K hK=>?_|refine goB rfl fun K hK=>?_|refine goC rfl rfl fun K hK=>?_|refine goD rfl rfl fun K hK=>?_);simp (dsimp:=false) only [↓gq,↓stepP,↓stepG,go_sem,hg,c1,w1,hlen])|refine Pwp.seq ?_|refine Pwp.block ?_|(refine Pwp.exit ?_;simp only [thenS,blockS,if_true,if_false,reduceIte,Nat.reduceEqDiff,Nat.add_one_ne_zero,reduceCtorEq])|(refine Pwp.skip ?_;simp only [thenS,blockS])|(refine Pwp.cond rfl True.intro (fun h=>?_) (fun h=>?_)<;>(try (cases h;done))<;>(try simp only [h]))|refine Pwp.ret ?_|(refine hK _ ?_;clear hK K)|(refine hK _ _ rfl ?_;clear hK K)|(refine CallK.toD (ds:=[.agg [I64 y.cur, I64 y.st, .slc 3 (frD n y), .slc 4 (linesD y.ls), .slc 1 (y.ns.map I64)], .ptr (mcD m)]) rfl (r202) rfl ?_)|refine CallG.off ?_|with_reducible refine Or.inl ?_|simp only [thenS,blockS]|with_reducible refine And.intro ?_ ?_|with_reducible exact True.intro|simp (dsimp:=false) only [↓gq,↓stepP,↓stepG,go_sem,hg,c1,w1,hlen])
      all_goals (try (first|(intro hg;simp [hg];done)|exact of_decide_eq_true rfl|(cases h;done)))
      (refine Fin.data (.inr rfl) (by simp (dsimp:=false) only [↓gq,↓stepP,↓stepG,go_sem,resL]; rfl) (by simp only [and_self]) (by simp (dsimp:=false) only [↓gq,↓stepP,↓stepG,go_sem,resP,Nat.le_refl,List.take_length]; try rfl) ?_)
      rw [← hp]
      exact subD_refl _
    | false =>
      rw [hc, if_neg (by simp)] at hp
      rw [hc] at r202
      repeat' (first|((first|refine goA rfl fun K hK=>?_|refine goB rfl fun K hK=>?_|refine goC rfl rfl fun K hK=>?_|refine goD rfl rfl fun K hK=>?_);simp (dsimp:=false) only [↓gq,↓stepP,↓stepG,go_sem,hg,c1,w1,hlen])|refine Pwp.seq ?_|refine Pwp.block ?_|(refine Pwp.exit ?_;simp only [thenS,blockS,if_true,if_false,reduceIte,Nat.reduceEqDiff,Nat.add_one_ne_zero,reduceCtorEq])|(refine Pwp.skip ?_;simp only [thenS,blockS])|(refine Pwp.cond rfl True.intro (fun h=>?_) (fun h=>?_)<;>(try (cases h;done))<;>(try simp only [h]))|refine Pwp.ret ?_|(refine hK _ ?_;clear hK K)|(refine hK _ _ rfl ?_;clear hK K)|(refine CallK.toD (ds:=[.agg [I64 y.cur, I64 y.st, .slc 3 (frD n y), .slc 4 (linesD y.ls), .slc 1 (y.ns.map I64)], .ptr (mcD m)]) rfl (r202) rfl ?_)|refine CallG.off ?_|with_reducible refine Or.inl ?_|simp only [thenS,blockS]|with_reducible refine And.intro ?_ ?_|with_reducible exact True.intro|simp (dsimp:=false) only [↓gq,↓stepP,↓stepG,go_sem,hg,c1,w1,hlen])
      all_goals (try (first|(intro hg;simp [hg];done)|exact of_decide_eq_true rfl|(cases h;done)))
      exact ⟨_, Sub.view V0 (by simp [L245]) rfl (by simp [L245,fnO]) (by simp [L245,fnO]), hp, rfl⟩
  · rintro s ⟨hp, rfl⟩
    have c1 := dge (Nat.le_refl rs.length)
    rw [List.drop_length, fndB] at hp
    unfold L245 fnO
    repeat' (first|((first|refine goA rfl fun K hK=>?_|refine goB rfl fun K hK=>?_|refine goC rfl rfl fun K hK=>?_|refine goD rfl rfl fun K hK=>?_);simp (dsimp:=false) only [↓gq,↓stepP,↓stepG,go_sem,c1,hlen])|refine Pwp.seq ?_|refine Pwp.block ?_|(refine Pwp.exit ?_;simp only [thenS,blockS,if_true,if_false,reduceIte,Nat.reduceEqDiff,Nat.add_one_ne_zero,reduceCtorEq])|(refine Pwp.skip ?_;simp only [thenS,blockS])|(refine Pwp.cond rfl True.intro (fun h=>?_) (fun h=>?_)<;>(try (cases h;done))<;>(try simp only [h]))|refine Pwp.ret ?_|(refine hK _ ?_;clear hK K)|(refine hK _ _ rfl ?_;clear hK K)|refine CallG.off ?_|with_reducible refine Or.inl ?_|simp only [thenS,blockS]|with_reducible refine And.intro ?_ ?_|with_reducible exact True.intro|simp (dsimp:=false) only [↓gq,↓stepP,↓stepG,go_sem,c1,hlen])
    all_goals (try (first|(intro hg;simp [hg];done)|exact of_decide_eq_true rfl|(cases h;done)))
    (refine Fin.data (.inr rfl) (by simp (dsimp:=false) only [↓gq,↓stepP,↓stepG,go_sem,resL]; rfl) (by simp only [and_self]) (by simp (dsimp:=false) only [↓gq,↓stepP,↓stepG,go_sem,resP,Nat.le_refl,List.take_length]; try rfl) ?_)
    rw [← hp]
    exact subD_refl _
theorem run201 (n : Nat) (rs : List DRun) (m : VMsg) (hl : rs.length ≤ 100000) : Runs Try.prog 201 [.d (.slc 5 (runsC n rs)), .d (fnO m)] [] (pbool (rs.any (sameO m.currency))) [] := by
  have r := run245 n rs m hl
  have ha := fndB_any (sameO m.currency) rs 0
  refine Runs.of (kit Try.prog) Try.func201 rfl rfl (by rw [Try.ntmps201]; exact of_decide_eq_true rfl) ?_; rw [Try.ntmps201, Try.results201]
  repeat' (first|((first|refine goA rfl fun K hK=>?_|refine goB rfl fun K hK=>?_|refine goC rfl rfl fun K hK=>?_|refine goD rfl rfl fun K hK=>?_);simp (dsimp:=false) only [↓gq,↓stepP,↓stepG,go_sem,ha])|refine Pwp.seq ?_|refine Pwp.block ?_|(refine Pwp.exit ?_;simp only [thenS,blockS,if_true,if_false,reduceIte,Nat.reduceEqDiff,Nat.add_one_ne_zero,reduceCtorEq])|(refine Pwp.skip ?_;simp only [thenS,blockS])|(refine Pwp.cond rfl True.intro (fun h=>?_) (fun h=>?_)<;>(try (cases h;done))<;>(try simp only [h]))|refine Pwp.ret ?_|(refine hK _ ?_;clear hK K)|(refine hK _ _ rfl ?_;clear hK K)|(refine CallK.toD (ds:=[.slc 5 (runsC n rs), fnO m]) rfl (r) rfl ?_)|refine CallG.off ?_|with_reducible refine Or.inl ?_|simp only [thenS,blockS]|with_reducible refine And.intro ?_ ?_|with_reducible exact True.intro|simp (dsimp:=false) only [↓gq,↓stepP,↓stepG,go_sem,ha])
  all_goals (try (first|(intro hg;simp [hg];done)|exact of_decide_eq_true rfl|(cases h;done)))
  (refine Fin.data (.inr rfl) (by simp (dsimp:=false) only [↓gq,↓stepP,↓stepG,go_sem,resL]; rfl) (by simp only [and_self]) (by simp (dsimp:=false) only [↓gq,↓stepP,↓stepG,go_sem,resP,Nat.le_refl,List.take_length]; try rfl) ?_)
  exact subD_refl _
theorem run207 (o v : Bool) (x : D) : Runs Try.prog 207 [.d (.agg [.v (.bool o), .v (.bool v), x])] [] (pbool (!v)) [] := by
  refine Runs.of (kit Try.prog) Try.func207 rfl rfl (by rw [Try.ntmps207]; exact of_decide_eq_true rfl) ?_; rw [Try.ntmps207, Try.results207]
  repeat' (first|((first|refine goA rfl fun K hK=>?_|refine goB rfl fun K hK=>?_|refine goC rfl rfl fun K hK=>?_|refine goD rfl rfl fun K hK=>?_);simp (dsimp:=false) only [↓gq,↓stepP,↓stepG,go_sem])|refine Pwp.seq ?_|refine Pwp.block ?_|(refine Pwp.exit ?_;simp only [thenS,blockS,if_true,if_false,reduceIte,Nat.reduceEqDiff,Nat.add_one_ne_zero,reduceCtorEq])|(refine Pwp.skip ?_;simp only [thenS,blockS])|(refine Pwp.cond rfl True.intro (fun h=>?_) (fun h=>?_)<;>(try (cases h;done))<;>(try simp only [h]))|refine Pwp.ret ?_|(refine hK _ ?_;clear hK K)|(refine hK _ _ rfl ?_;clear hK K)|refine CallG.off ?_|with_reducible refine Or.inl ?_|simp only [thenS,blockS]|with_reducible refine And.intro ?_ ?_|with_reducible exact True.intro|simp (dsimp:=false) only [↓gq,↓stepP,↓stepG,go_sem])
  all_goals (try (first|(intro hg;simp [hg];done)|exact of_decide_eq_true rfl|(cases h;done)))
  (refine Fin.data (.inr rfl) (by simp (dsimp:=false) only [↓gq,↓stepP,↓stepG,go_sem,resL]; rfl) (by simp only [and_self]) (by simp (dsimp:=false) only [↓gq,↓stepP,↓stepG,go_sem,resP,Nat.le_refl,List.take_length]; try rfl) ?_)
  exact subD_refl _
def fndF (l : List Bool) : Nat → Nat → Int
  | _, 0 => -1
  | i, m + 1 => if l.getD i false = false then i else fndF l (i + 1) m
theorem fndF_any (l : List Bool) : ∀ (m i : Nat), decide (0 ≤ fndF l i m) = !((List.range' i m).all fun k => l.getD k false)
  | 0, i => rfl
  | m + 1, i => by
    rw [fndF, List.range'_succ, List.all_cons]
    cases hp : l.getD i false with
    | true => rw [if_neg (by simp), Bool.true_and]; exact fndF_any l m (i + 1)
    | false => rw [if_pos rfl, Bool.false_and]; exact decide_eq_true (by omega)
theorem fndF_ok (l : List Bool) (n : Nat) : decide (0 ≤ fndF l 0 n) = !okB l n := by rw [fndF_any]; unfold okB; rw [List.range_eq_range']
def fn7 : D := .v (.func (.func 207) #[] #[])
def L246 (n : Nat) (d : DRun) (i : Nat) : St := ⟨[(8, pint .i64 i), (7, pint .i64 n), (1, .d fn7), (0, .d (.slc 3 (frD n d)))], [], 24⟩
set_option maxHeartbeats 8000000 in
theorem run246 (n : Nat) (d : DRun) (hn : n ≤ 8) : Runs Try.prog 246 [.d (.slc 3 (frD n d)), .d fn7] [] (pint .i64 (fndF d.vot 0 n)) [] := by
  have hlen := frD_len n d
  unfold fn7
  refine Runs.of (kit Try.prog) Try.func246 rfl rfl (by rw [Try.ntmps246]; exact of_decide_eq_true rfl) ?_; rw [Try.ntmps246, Try.results246]
  repeat' (first|((first|refine goA rfl fun K hK=>?_|refine goB rfl fun K hK=>?_|refine goC rfl rfl fun K hK=>?_|refine goD rfl rfl fun K hK=>?_);simp (dsimp:=false) only [↓gq,↓stepP,↓stepG,go_sem,hlen])|refine Pwp.seq ?_|refine Pwp.block ?_|(refine Pwp.exit ?_;simp only [thenS,blockS,if_true,if_false,reduceIte,Nat.reduceEqDiff,Nat.add_one_ne_zero,reduceCtorEq])|(refine Pwp.skip ?_;simp only [thenS,blockS])|(refine Pwp.cond rfl True.intro (fun h=>?_) (fun h=>?_)<;>(try (cases h;done))<;>(try simp only [h]))|refine Pwp.ret ?_|(refine hK _ ?_;clear hK K)|(refine hK _ _ rfl ?_;clear hK K)|refine CallG.off ?_|with_reducible refine Or.inl ?_|simp only [thenS,blockS]|with_reducible refine And.intro ?_ ?_|with_reducible exact True.intro|simp (dsimp:=false) only [↓gq,↓stepP,↓stepG,go_sem,hlen])
  all_goals (try (first|(intro hg;simp [hg];done)|exact of_decide_eq_true rfl|(cases h;done)))
  refine Pwp.rangeI n (fun i s => fndF d.vot i (n - i) = fndF d.vot 0 n ∧ s = L246 n d i) (s0 := L246 n d 0) (Sub.view V0 (by simp [L246]) rfl (by simp [L246,fn7,hlen]) (by simp [L246,fn7,hlen])) ⟨rfl, rfl⟩ ?_ ?_
  · rintro i s hi ⟨hp, rfl⟩
    have hg := frD_get hi d
    have c1 := dlt hi
    have w1 := wrap_succ (i := i) (by omega)
    have r207 := run207 (d.off.getD i false) (d.vot.getD i false) (.slc 4 (linesD (d.ofs.getD i [])))
    rw [show n - i = (n - (i + 1)) + 1 by omega, fndF] at hp
    unfold L246 fn7
    cases hc : d.vot.getD i false with
    | false =>
      rw [hc, if_pos rfl] at hp
      rw [hc] at r207 hg
      repeat' (first|((first|refine goA rfl fun K hK=>?_|refine goB rfl fun K hK=>?_|refine goC rfl rfl fun K hK=>?_|refine goD rfl rfl fun K hK=>?_);simp (dsimp:=false) only [↓gq,↓stepP,↓stepG,go_sem,hg,c1,w1,hlen])|refine Pwp.seq ?_|refine Pwp.block ?_|(refine Pwp.exit ?_;simp only [thenS,blockS,if_true,if_false,reduceIte,Nat.reduceEqDiff,Nat.add_one_ne_zero,reduceCtorEq])|(refine Pwp.skip ?_;simp only [thenS,blockS])|(refine Pwp.cond rfl True.intro (fun h=>?_) (fun h=>?_)<;>(try (cases h;done))<;>(try simp only [h]))|refine Pwp.ret ?_|(refine hK _ ?_;clear hK K)|(refine hK _ _ rfl ?_;clear hK K)|(refine CallK.toD (ds:=[.agg [.v (.bool (d.off.getD i false)), .v (.bool false), .slc 4 (linesD (d.ofs.getD i []))]]) rfl (r207) rfl ?_)|refine CallG.off ?_|with_reducible refine Or.inl ?_|simp only [thenS,blockS]|with_reducible refine And.intro ?_ ?_|with_reducible exact True.intro|simp (dsimp:=false) only [↓gq,↓stepP,↓stepG,go_sem,hg,c1,w1,hlen])
      all_goals (try (first|(intro hg;simp [hg];done)|exact of_decide_eq_true rfl|(cases h;done)))
      (refine Fin.data (.inr rfl) (by simp (dsimp:=false) only [↓gq,↓stepP,↓stepG,go_sem,resL]; rfl) (by simp only [and_self]) (by simp (dsimp:=false) only [↓gq,↓stepP,↓stepG,go_sem,resP,Nat.le_refl,List.take_length]; try rfl) ?_)
      rw [← hp]
      exact subD_refl _
    | true =>
      rw [hc, if_neg (by simp)] at hp
      rw [hc] at r207 hg
      repeat' (first|((first|refine goA rfl fun K hK=>?_|refine goB rfl fun K hK=>?_|refine goC rfl rfl fun K hK=>?_|refine goD rfl rfl fun K hK=>?_);simp (dsimp:=false) only [↓gq,↓stepP,↓stepG,go_sem,hg,c1,w1,hlen])|refine Pwp.seq ?_|refine Pwp.block ?_|(refine Pwp.exit ?_;simp only [thenS,blockS,if_true,if_false,reduceIte,Nat.reduceEqDiff,Nat.add_one_ne_zero,reduceCtorEq])|(refine Pwp.skip ?_;simp only [thenS,blockS])|(refine Pwp.cond rfl True.intro (fun h=>?_) (fun h=>?_)<;>(try (cases h;done))<;>(try simp only [h]))|refine Pwp.ret ?_|(refine hK _ ?_;clear hK K)|(refine hK _ _ rfl ?_;clear hK K)|(refine CallK.toD (ds:=[.agg [.v (.bool (d.off.getD i false)), .v (.bool true), .slc 4 (linesD (d.ofs.getD i []))]]) rfl (r207) rfl ?_)|refine CallG.off ?_|with_reducible refine Or.inl ?_|simp only [thenS,blockS]|with_reducible refine And.intro ?_ ?_|with_reducible exact True.intro|simp (dsimp:=false) only [↓gq,↓stepP,↓stepG,go_sem,hg,c1,w1,hlen])
      all_goals (try (first|(intro hg;simp [hg];done)|exact of_decide_eq_true rfl|(cases h;done)))
      exact ⟨_, Sub.view V0 (by simp [L246]) rfl (by simp [L246,fn7]) (by simp [L246,fn7]), hp, rfl⟩
  · rintro s ⟨hp, rfl⟩
    have c1 := dge (Nat.le_refl n)
    rw [Nat.sub_self, fndF] at hp
    unfold L246 fn7
    repeat' (first|((first|refine goA rfl fun K hK=>?_|refine goB rfl fun K hK=>?_|refine goC rfl rfl fun K hK=>?_|refine goD rfl rfl fun K hK=>?_);simp (dsimp:=false) only [↓gq,↓stepP,↓stepG,go_sem,c1,hlen])|refine Pwp.seq ?_|refine Pwp.block ?_|(refine Pwp.exit ?_;simp only [thenS,blockS,if_true,if_false,reduceIte,Nat.reduceEqDiff,Nat.add_one_ne_zero,reduceCtorEq])|(refine Pwp.skip ?_;simp only [thenS,blockS])|(refine Pwp.cond rfl True.intro (fun h=>?_) (fun h=>?_)<;>(try (cases h;done))<;>(try simp only [h]))|refine Pwp.ret ?_|(refine hK _ ?_;clear hK K)|(refine hK _ _ rfl ?_;clear hK K)|refine CallG.off ?_|with_reducible refine Or.inl ?_|simp only [thenS,blockS]|with_reducible refine And.intro ?_ ?_|with_reducible exact True.intro|simp (dsimp:=false) only [↓gq,↓stepP,↓stepG,go_sem,c1,hlen])
    all_goals (try (first|(intro hg;simp [hg];done)|exact of_decide_eq_true rfl|(cases h;done)))
    (refine Fin.data (.inr rfl) (by simp (dsimp:=false) only [↓gq,↓stepP,↓stepG,go_sem,resL]; rfl) (by simp only [and_self]) (by simp (dsimp:=false) only [↓gq,↓stepP,↓stepG,go_sem,resP,Nat.le_refl,List.take_length]; try rfl) ?_)
    rw [← hp]
    exact subD_refl _
theorem run206 (n : Nat) (d : DRun) (hn : n ≤ 8) : Runs Try.prog 206 [.d (.slc 3 (frD n d)), .d fn7] [] (pbool (!okB d.vot n)) [] := by
  have r := run246 n d hn
  have ha := fndF_ok d.vot n
  refine Runs.of (kit Try.prog) Try.func206 rfl rfl (by rw [Try.ntmps206]; exact of_decide_eq_true rfl) ?_; rw [Try.ntmps206, Try.results206]
  repeat' (first|((first|refine goA rfl fun K hK=>?_|refine goB rfl fun K hK=>?_|refine goC rfl rfl fun K hK=>?_|refine goD rfl rfl fun K hK=>?_);simp (dsimp:=false) only [↓gq,↓stepP,↓stepG,go_sem,ha])|refine Pwp.seq ?_|refine Pwp.block ?_|(refine Pwp.exit ?_;simp only [thenS,blockS,if_true,if_false,reduceIte,Nat.reduceEqDiff,Nat.add_one_ne_zero,reduceCtorEq])|(refine Pwp.skip ?_;simp only [thenS,blockS])|(refine Pwp.cond rfl True.intro (fun h=>?_) (fun h=>?_)<;>(try (cases h;done))<;>(try simp only [h]))|refine Pwp.ret ?_|(refine hK _ ?_;clear hK K)|(refine hK _ _ rfl ?_;clear hK K)|(refine CallK.toD (ds:=[.slc 3 (frD n d), fn7]) rfl (r) rfl ?_)|refine CallG.off ?_|with_reducible refine Or.inl ?_|simp only [thenS,blockS]|with_reducible refine And.intro ?_ ?_|with_reducible exact True.intro|simp (dsimp:=false) only [↓gq,↓stepP,↓stepG,go_sem,ha])
  all_goals (try (first|(intro hg;simp [hg];done)|exact of_decide_eq_true rfl|(cases h;done)))
  (refine Fin.data (.inr rfl) (by simp (dsimp:=false) only [↓gq,↓stepP,↓stepG,go_sem,resL]; rfl) (by simp only [and_self]) (by simp (dsimp:=false) only [↓gq,↓stepP,↓stepG,go_sem,resP,Nat.le_refl,List.take_length]; try rfl) ?_)
  exact subD_refl _
end Go.Proofs.Ytdodgbhodkcckaa.Pv
end
section
set_option linter.unusedVariables false
set_option linter.unusedSimpArgs false
set_option autoImplicit false
set_option maxRecDepth 100000
namespace Go.Proofs.Ytdodgbhodkcckaa.Pv
open Go Go.RowKit
theorem CallK.rowIn {P : Program} {fid : Nat} {nid : Nat → Nat} {st : St} {K : Eff → Prop} {id e s len : Nat} {room : Option Nat} {els : List D} {c m f a b x y : D} {q1 q3 q4 : PVal} {r : PVal} {h' : List (Nat × PObj)}
    (hr : Runs P fid [.d c, .agg [.d a, .d b, .own 0 0 s 0 len, .d x, .d y], .d m, .d f] [(0, .arr e s 0 room els)] r h') (hf : find id st.heap = some (.arr e s 0 room els)) (hd : toDL st.heap [q1, q3, q4] = some [c, m, f]) (hi : idsL [q1, q3, q4] = []) (hn : (h'.map (·.1)).Nodup)
    (hK : K ⟨r.shift (rename [id] nid), [id], shiftH (rename [id] nid) h'⟩) : CallK P fid nid st [q1, .agg [.d a, .d b, .own id 0 s 0 len, .d x, .d y], q3, q4] K := by
  simp only [toDL] at hd
  split at hd
  · rename_i d1 l1 e1 e2
    split at e2
    · rename_i d2 l2 e3 e4
      split at e4
      · rename_i d3 l3 e5 e6
        cases e6; cases e4; cases e2; cases hd
        simp only [idsL, List.append_eq_nil_iff, and_true] at hi
        refine ⟨[id], _, _, r, h', false, ?_, hr, ⟨by simp, by simp, rfl, ?_⟩, ⟨hn, ?_⟩, .inr (.inl ?_), by simpa using hK⟩
        · simp only [argsP, argP, e1, e3, e5, subD_refl, and_true, true_and, PVal.shift, shiftL, rename, List.length_singleton]
          simp
        · simp [PObj.shift, hf]
        · simp [frozen, hi.1, hi.2.1, hi.2.2]
        · simp [frozen, hi.1, hi.2.1, hi.2.2]
      · cases e4
    · cases e2
  · cases hd
theorem zero_fr (n : Nat) (hn : n ≤ 8) (cur : Int) : subL (List.replicate n (.agg [.v (.bool false), .v (.bool false), nilD])) (frD n (zeroR cur)) := by
  have e : frD n (zeroR cur) = (List.range n).map fun _ => .agg [.v (.bool false), .v (.bool false), .slc 4 []] := by
    unfold frD
    refine List.map_congr_left fun k hk => ?_
    have hk8 : k < 8 := by have := List.mem_range.1 hk; omega
    unfold hrD zeroR
    simp only [List.getD_eq_getElem?_getD, List.getElem?_replicate, if_pos hk8]; rfl
  have e2 : (List.replicate n (.agg [.v (.bool false), .v (.bool false), nilD]) : List D) = (List.range n).map fun _ => .agg [.v (.bool false), .v (.bool false), nilD] := by rw [List.map_const', List.length_range]
  rw [e, e2]
  exact subL_map fun k _ => by simp [subD, subL, subV]
theorem same_open {n : Nat} {rs : List DRun} (h : RunsOK n rs) (c : Int) : rs.any (sameO c) = rs.any fun d => decide (d.st < 3) && d.cur == c := by
  rw [Bool.eq_iff_iff, List.any_eq_true, List.any_eq_true]
  constructor
  · rintro ⟨d, h1, h2⟩
    refine ⟨d, h1, ?_⟩
    have := (h d h1).st
    unfold sameO openR at h2
    simp only [Bool.and_eq_true, Bool.or_eq_true, beq_iff_eq, decide_eq_true_eq] at h2 ⊢
    exact ⟨by omega, h2.2⟩
  · rintro ⟨d, h1, h2⟩
    refine ⟨d, h1, ?_⟩
    have := (h d h1).st
    unfold sameO openR
    simp only [Bool.and_eq_true, Bool.or_eq_true, beq_iff_eq, decide_eq_true_eq] at h2 ⊢
    exact ⟨by omega, h2.2⟩
def L148 (n : Nat) (rs : List DRun) (m : VMsg) : St :=
  ⟨[(2, .ref 8 0), (3, .ref 9 0), (4, .ref 10 0)], [(8, .box [.d (I64 n), .d (.slc 5 (runsC n (rs ++ [zeroR m.currency])))]), (9, .box [.d (I64 m.kind), .d (I64 m.seller), .d (I64 m.number), .d (I64 m.buyer), .d (I64 m.currency), .d (I64 m.round), .d (I64 m.cycle), .d (I64 m.amount), .d (.v (.bool m.yes)), .d (.slc 4 (linesD m.ls)), .d (.slc 1 (m.ns.map I64))]), (10, .box [.d (I64 0), .d nilD])], 200⟩
set_option maxHeartbeats 16000000 in
theorem run148 (n : Nat) (rs : List DRun) (m : VMsg) (hn : n ≤ 8) (hr : RunsOK n rs) (hl : rs.length ≤ 10000) : Runs Try.prog 148 [.d (chD n rs), .d m.msg.d] [] (.d (cOutD n (cStart n rs m.currency))) [] := by
  have r201 := run201 n rs m (by omega)
  have hlen := runsC_len n rs
  have e1 : ∀ r : DOut, cOutD n r = .tup [chD n r.rs, .slc 12 (sentsD r.o), I64 r.e] := fun _ => rfl
  rw [same_open hr] at r201
  unfold cStart
  cases hb : (decide (m.currency < 0) || decide (7 < m.currency)) with
  | true =>
    rw [if_pos rfl, e1]
    have hb2 : (decide (m.currency < 0) || decide (8 ≤ m.currency)) = true := by rw [← hb]; congr 1
    unfold chD VMsg.msg Msg.d Msg.cells
    refine Runs.of (kit Try.prog) Try.func148 rfl rfl (by rw [Try.ntmps148]; exact of_decide_eq_true rfl) ?_; rw [Try.ntmps148, Try.results148]
    repeat' (first|((first|refine goA rfl fun K hK=>?_|refine goB rfl fun K hK=>?_|refine goC rfl rfl fun K hK=>?_|refine goD rfl rfl fun K hK=>?_);simp (dsimp:=false) only [↓gq,↓stepP,↓stepG,go_sem,hb2])|refine Pwp.seq ?_|refine Pwp.block ?_|(refine Pwp.exit ?_;simp only [thenS,blockS,if_true,if_false,reduceIte,Nat.reduceEqDiff,Nat.add_one_ne_zero,reduceCtorEq])|(refine Pwp.skip ?_;simp only [thenS,blockS])|(refine Pwp.cond rfl True.intro (fun h=>?_) (fun h=>?_)<;>(try (cases h;done))<;>(try simp only [h]))|refine Pwp.ret ?_|(refine hK _ ?_;clear hK K)|(refine hK _ _ rfl ?_;clear hK K)|refine CallG.off ?_|with_reducible refine Or.inl ?_|simp only [thenS,blockS]|with_reducible refine And.intro ?_ ?_|with_reducible exact True.intro|simp (dsimp:=false) only [↓gq,↓stepP,↓stepG,go_sem,hb2])
    all_goals (try (first|(intro hg;simp [hg];done)|exact of_decide_eq_true rfl|(cases h;done)))
    all_goals (try (intro hg; simp only [hg, Bool.not_false, Bool.not_true, Bool.and_self, Bool.true_and, Bool.and_true, true_and, and_self, imp_self, implies_true]; done))
    (refine Fin.data (.inr rfl) (by simp (dsimp:=false) only [↓gq,↓stepP,↓stepG,go_sem,resL]; rfl) (by simp only [and_self]) (by simp (dsimp:=false) only [↓gq,↓stepP,↓stepG,go_sem,resP,Nat.le_refl,List.take_length]; try rfl) ?_)
    simp [sentsD]
  | false =>
    have hb2 : (decide (m.currency < 0) || decide (8 ≤ m.currency)) = false := by rw [← hb]; congr 1
    cases ha : rs.any (fun d => decide (d.st < 3) && d.cur == m.currency) with
    | true =>
      rw [if_neg (by simp), if_pos rfl, e1]
      rw [ha] at r201
      unfold fnO mcD at r201
      unfold chD VMsg.msg Msg.d Msg.cells
      refine Runs.of (kit Try.prog) Try.func148 rfl rfl (by rw [Try.ntmps148]; exact of_decide_eq_true rfl) ?_; rw [Try.ntmps148, Try.results148]
      repeat' (first|((first|refine goA rfl fun K hK=>?_|refine goB rfl fun K hK=>?_|refine goC rfl rfl fun K hK=>?_|refine goD rfl rfl fun K hK=>?_);simp (dsimp:=false) only [↓gq,↓stepP,↓stepG,go_sem,hb2])|refine Pwp.seq ?_|refine Pwp.block ?_|(refine Pwp.exit ?_;simp only [thenS,blockS,if_true,if_false,reduceIte,Nat.reduceEqDiff,Nat.add_one_ne_zero,reduceCtorEq])|(refine Pwp.skip ?_;simp only [thenS,blockS])|(refine Pwp.cond rfl True.intro (fun h=>?_) (fun h=>?_)<;>(try (cases h;done))<;>(try simp only [h]))|refine Pwp.ret ?_|(refine hK _ ?_;clear hK K)|(refine hK _ _ rfl ?_;clear hK K)|(refine CallK.toD (ds:=[.slc 5 (runsC n rs), .fn (.func 202) [] [.ptr [I64 m.kind, I64 m.seller, I64 m.number, I64 m.buyer, I64 m.currency, I64 m.round, I64 m.cycle, I64 m.amount, .v (.bool m.yes), .slc 4 (linesD m.ls), .slc 1 (m.ns.map I64)]]]) rfl (r201) rfl ?_)|refine CallG.off ?_|with_reducible refine Or.inl ?_|simp only [thenS,blockS]|with_reducible refine And.intro ?_ ?_|with_reducible exact True.intro|simp (dsimp:=false) only [↓gq,↓stepP,↓stepG,go_sem,hb2])
      all_goals (try (first|(intro hg;simp [hg];done)|exact of_decide_eq_true rfl|(cases h;done)))
      all_goals (try (intro hg; simp only [hg, Bool.not_false, Bool.not_true, Bool.and_self, Bool.true_and, Bool.and_true, true_and, and_self, imp_self, implies_true]; done))
      (refine Fin.data (.inr rfl) (by simp (dsimp:=false) only [↓gq,↓stepP,↓stepG,go_sem,resL]; rfl) (by simp only [and_self]) (by simp (dsimp:=false) only [↓gq,↓stepP,↓stepG,go_sem,resP,Nat.le_refl,List.take_length]; try rfl) ?_)
      simp [sentsD]
    | false =>
      rw [if_neg (by simp), if_neg (by simp), e1]
      rw [ha] at r201
      have r203 := run203 (runsC n rs) (runsC_one n rs) (by rw [runsC_len]; omega)
      rw [hlen] at r203
      have r204 := run204 n (rs ++ [zeroR m.currency]) (askV ((rs.length : Int) + 1) m.currency) hn (by simp [askV]) (by simp [askV])
      have c20 : decide ((1048576 : Int) ≤ (rs.length : Int)) = false := decide_eq_false (by omega)
      have pn : (0 : Int) ≤ (n : Int) := by omega
      have htk : (runsC n rs).take rs.length = runsC n rs := List.take_of_length_le (by omega)
      have hzs := zero_fr n hn m.currency
      have hsub : subL (runsC n rs ++ [.agg [I64 m.currency, I64 1, .slc 3 (List.replicate n (.agg [.v (.bool false), .v (.bool false), nilD])), nilD, nilD]]) (runsC n (rs ++ [zeroR m.currency])) := by
        have e : runsC n (rs ++ [zeroR m.currency]) = runsC n rs ++ [.agg (runC n (zeroR m.currency))] := by simp [runsC]
        rw [e]
        refine subL_append (subL_refl _) ?_
        unfold runC
        simp only [zeroR, linesD, List.map_nil, subL, subD, subV, and_true]
        exact ⟨trivial, trivial, trivial, by simpa [zeroR] using hzs⟩
      generalize hrl : (List.replicate n (.agg [.v (.bool false), .v (.bool false), nilD]) : List D) = zr at *
      have hzl : zr.length = n := by rw [← hrl]; simp
      have hzt : zr.take n = zr := List.take_of_length_le (by omega)
      have hql : (runsC n rs ++ [D.agg [I64 m.currency, I64 1, .slc 3 zr, nilD, nilD]]).length = rs.length + 1 := by simp [hlen]
      have hqt : (runsC n rs ++ [D.agg [I64 m.currency, I64 1, .slc 3 zr, nilD, nilD]]).take (rs.length + 1) = runsC n rs ++ [D.agg [I64 m.currency, I64 1, .slc 3 zr, nilD, nilD]] := List.take_of_length_le (by omega)
      have hnl : (runsC n (rs ++ [zeroR m.currency])).length = rs.length + 1 := by rw [runsC_len]; simp
      have hcl : (rs.length : Int) + 1 = ((rs.length + 1 : Nat) : Int) := by omega
      rw [hcl] at *
      unfold fnO mcD at r201
      unfold chD VMsg.msg askV Msg.d Msg.cells at *
      simp only at r204
      refine Runs.of (kit Try.prog) Try.func148 rfl rfl (by rw [Try.ntmps148]; exact of_decide_eq_true rfl) ?_; rw [Try.ntmps148, Try.results148]
      repeat' (first|((first|refine goA rfl fun K hK=>?_|refine goB rfl fun K hK=>?_|refine goC rfl rfl fun K hK=>?_|refine goD rfl rfl fun K hK=>?_);simp (dsimp:=false) only [↓gq,↓stepP,↓stepG,go_sem,hb2,c20,hlen])|refine Pwp.seq ?_|refine Pwp.block ?_|(refine Pwp.exit ?_;simp only [thenS,blockS,if_true,if_false,reduceIte,Nat.reduceEqDiff,Nat.add_one_ne_zero,reduceCtorEq])|(refine Pwp.skip ?_;simp only [thenS,blockS])|(refine Pwp.cond rfl True.intro (fun h=>?_) (fun h=>?_)<;>(try (cases h;done))<;>(try simp only [h]))|refine Pwp.ret ?_|(refine hK _ ?_;clear hK K)|(refine hK _ _ rfl ?_;clear hK K)|(refine CallK.toD (ds:=[.slc 5 (runsC n rs), .fn (.func 202) [] [.ptr [I64 m.kind, I64 m.seller, I64 m.number, I64 m.buyer, I64 m.currency, I64 m.round, I64 m.cycle, I64 m.amount, .v (.bool m.yes), .slc 4 (linesD m.ls), .slc 1 (m.ns.map I64)]]]) rfl (r201) rfl ?_)|refine CallG.off ?_|with_reducible refine Or.inl ?_|simp only [thenS,blockS]|with_reducible refine And.intro ?_ ?_|with_reducible exact True.intro|simp (dsimp:=false) only [↓gq,↓stepP,↓stepG,go_sem,hb2,c20,hlen])
      all_goals (try (first|(intro hg;simp [hg];done)|exact of_decide_eq_true rfl|(cases h;done)))
      repeat' (first|(refine hK _ ?_;clear hK K)|(refine hK _ _ rfl ?_;clear hK K)|(refine CallK.give (ds:=[.slc 5 (runsC n rs)]) rfl (r203) (by simp) ?_)|refine CallG.off ?_|with_reducible refine Or.inl ?_|with_reducible refine And.intro ?_ ?_|with_reducible exact True.intro|simp (dsimp:=false) only [↓gq,↓stepP,↓stepG,go_sem,hb2,c20,pn,hlen,htk,hrl,hzl,hzt,Nat.le_refl])
      all_goals (try (first|(intro hg;simp [hg];done)|exact of_decide_eq_true rfl|(cases h;done)))
      all_goals (try (first | omega | (simp [maxLen]; omega) | (simp; done)))
      refine Pwp.sub (Sub.view (t := L148 n rs m) V0 (by simp [L148]) rfl (by simp [L148,hql,hqt,hsub]) (by simp [L148,hql,hqt,hsub])) ?_
      unfold L148
      repeat' (first|((first|refine goA rfl fun K hK=>?_|refine goB rfl fun K hK=>?_|refine goC rfl rfl fun K hK=>?_|refine goD rfl rfl fun K hK=>?_);simp (dsimp:=false) only [↓gq,↓stepP,↓stepG,go_sem,hnl])|refine Pwp.seq ?_|refine Pwp.block ?_|(refine Pwp.exit ?_;simp only [thenS,blockS,if_true,if_false,reduceIte,Nat.reduceEqDiff,Nat.add_one_ne_zero,reduceCtorEq])|(refine Pwp.skip ?_;simp only [thenS,blockS])|(refine Pwp.cond rfl True.intro (fun h=>?_) (fun h=>?_)<;>(try (cases h;done))<;>(try simp only [h]))|refine Pwp.ret ?_|(refine hK _ ?_;clear hK K)|(refine hK _ _ rfl ?_;clear hK K)|(refine CallK.giveS (ds:=[.agg [I64 n, .slc 5 (runsC n (rs ++ [zeroR m.currency]))], .agg [I64 10, I64 0, I64 0, I64 0, I64 m.currency, I64 0, I64 ((rs.length + 1 : Nat) : Int), I64 0, .v (.bool false), nilD, nilD]]) (es:=[.agg [I64 n, .slc 5 (runsC n (rs ++ [zeroR m.currency]))], .agg [I64 10, I64 0, I64 0, I64 0, I64 m.currency, I64 0, I64 ((rs.length + 1 : Nat) : Int), I64 0, .v (.bool false), .slc 4 (linesD []), .slc 1 (List.map I64 [])]]) rfl (by simp [subL, subD, subV, subD_refl, subL_refl, linesD]) r204 (by simp) ?_)|refine CallG.off ?_|with_reducible refine Or.inl ?_|simp only [thenS,blockS]|with_reducible refine And.intro ?_ ?_|with_reducible exact True.intro|simp (dsimp:=false) only [↓gq,↓stepP,↓stepG,go_sem,hnl])
      all_goals (try (first|(intro hg;simp [hg];done)|exact of_decide_eq_true rfl|(cases h;done)))
      (refine Fin.data (.inr rfl) (by simp (dsimp:=false) only [↓gq,↓stepP,↓stepG,go_sem,resL]; rfl) (by simp only [and_self]) (by simp (dsimp:=false) only [↓gq,↓stepP,↓stepG,go_sem,resP,Nat.le_refl,List.take_length]; try rfl) ?_)
      simp [subL, subD, subD_refl, subL_refl]
end Go.Proofs.Ytdodgbhodkcckaa.Pv
end
section
set_option linter.unusedVariables false
set_option linter.unusedSimpArgs false
set_option autoImplicit false
namespace Go.Proofs.Ytdodgbhodkcckaa.Pv
open Go Go.RowKit
theorem cmpI_lt {a n : Int} : cmpI a n < 0 ↔ a < n := by unfold cmpI; split <;> (try split) <;> omega
theorem cmpI_eq {a n : Int} : cmpI a n = 0 ↔ a = n := by unfold cmpI; split <;> (try split) <;> omega
theorem posC_below {l : List Part} (h : Rising Part.cycle l) (n : Int) : posC l n = (below Part.cycle l n).length :=
  bs_rising h fun i y hy => by simp only [cmpC, hy]; exact cmpI_lt
theorem isC_seek {l : List Part} (h : Rising Part.cycle l) (n : Int) : isC l n = (seek Part.cycle l n).isSome := by
  unfold isC
  rw [posC_below h]
  exact bs_there fun i y hy => by simp only [cmpC, hy]; exact cmpI_eq
theorem putC_enter {l : List Part} (h : Rising Part.cycle l) (x : Part) : putC l x = enter Part.cycle x l := by
  unfold putC
  rw [isC_seek h, posC_below h]
  cases hs : seek Part.cycle l x.cycle with
  | none => simp only [Option.isSome_none, Bool.false_eq_true, if_false]; exact enter_none (y := x) hs
  | some y => simp only [Option.isSome_some, if_true]; exact enter_some (y := x) hs
structure PGd (p : VP) (k : Nat) : Prop where
  rise : Rising Part.cycle p.list
  pl : p.list.length ≤ k
  ls : ∀ x ∈ p.list, x.lines.length ≤ 1000
theorem PGd.put {p : VP} {k : Nat} (h : PGd p k) {x : Part} (hx : x.lines.length ≤ 1000) : PGd { p with list := putC p.list x } (k + 1) := by
  have e := putC_enter h.rise x
  refine ⟨?_, ?_, ?_⟩
  · simp only; rw [e]; exact rising_enter h.rise x
  · simp only; rw [e, length_enter]; have := h.pl; split <;> omega
  · intro y hy
    simp only at hy
    rw [e] at hy
    rcases (mem_enter h.rise).1 hy with rfl | ⟨h1, _⟩
    · exact hx
    · exact h.ls y h1
theorem PGd.mono {p : VP} {k : Nat} (h : PGd p k) : PGd p (k + 1) := ⟨h.rise, Nat.le_succ_of_le h.pl, h.ls⟩
end Go.Proofs.Ytdodgbhodkcckaa.Pv
end
section
set_option linter.unusedVariables false
set_option linter.unusedSimpArgs false
set_option autoImplicit false
set_option maxRecDepth 100000
namespace Go.Proofs.Ytdodgbhodkcckaa.Pv
open Go Go.RowKit
structure RelI (me : Int) (l w : List Item) : Prop where
  gd : Good me l
  pm : w.Perm l
end Go.Proofs.Ytdodgbhodkcckaa.Pv
end
section
set_option linter.unusedVariables false
set_option linter.unusedSimpArgs false
set_option autoImplicit false
set_option maxRecDepth 100000
namespace Go.Proofs.Ytdodgbhodkcckaa.Pv
open Go Go.RowKit
structure ROutV where
  e : Int
  q : VP
  w : List Item
  o : Option D
end Go.Proofs.Ytdodgbhodkcckaa.Pv
end
section
set_option linter.unusedVariables false
set_option linter.unusedSimpArgs false
set_option autoImplicit false
set_option maxRecDepth 100000
namespace Go.Proofs.Ytdodgbhodkcckaa.Pv
open Go Go.RowKit
def boxV (m : VMsg) : PObj := .box [.d (I64 m.kind), .d (I64 m.seller), .d (I64 m.number), .d (I64 m.buyer), .d (I64 m.currency), .d (I64 m.round), .d (I64 m.cycle), .d (I64 m.amount), .d (.v (.bool m.yes)), .d (.slc 4 (linesD m.ls)), .d (.slc 1 (m.ns.map I64))]
end Go.Proofs.Ytdodgbhodkcckaa.Pv
end
section
set_option linter.unusedVariables false
set_option linter.unusedSimpArgs false
set_option autoImplicit false
set_option maxRecDepth 100000
namespace Go.Proofs.Ytdodgbhodkcckaa.Pv
open Go Go.RowKit
set_option maxHeartbeats 32000000 in
theorem run150 (n : Nat) (rs : List DRun) (d : DRun) (m : VMsg) (f : Nat) (hn : n ≤ 8) (hd : RunOK n d) (hf : f < n) (hl : rs.length ≤ 10000) (h1 : 1 ≤ m.cycle) (h2 : m.cycle ≤ (rs.length : Int)) :
    Runs Try.prog 150 [.d (chD n rs), runP 0 n d, .d m.msg.d, pint .i64 f] [(0, .arr 193 3 0 none (frD n d))] (.d (cOutD n (cVote n rs d m.cycle m.yes f))) [] := by
  have e1 : ∀ r : DOut, cOutD n r = .tup [chD n r.rs, .slc 12 (sentsD r.o), I64 r.e] := fun _ => rfl
  have hfl := frD_len n d
  have hg := frD_get hf d
  have pf : (0 : Int) ≤ (f : Int) := by omega
  have hv8 := hd.vot
  have hset := frD_votB (d := d) hf (by omega)
  have hfl2 := frD_len n (votB d f)
  have htk2 : (frD n (votB d f)).take n = frD n (votB d f) := List.take_of_length_le (by omega)
  unfold cVote
  cases hs : (d.st != 2) with
  | true =>
    rw [if_pos rfl, e1]
    unfold chD runP VMsg.msg Msg.d Msg.cells
    refine Runs.of (kit Try.prog) Try.func150 rfl rfl (by rw [Try.ntmps150]; exact of_decide_eq_true rfl) ?_; rw [Try.ntmps150, Try.results150]
    repeat' (first|((first|refine goA rfl fun K hK=>?_|refine goB rfl fun K hK=>?_|refine goC rfl rfl fun K hK=>?_|refine goD rfl rfl fun K hK=>?_);simp (dsimp:=false) only [↓gq,↓stepP,↓stepG,go_sem,hs])|refine Pwp.seq ?_|refine Pwp.block ?_|(refine Pwp.exit ?_;simp only [thenS,blockS,if_true,if_false,reduceIte,Nat.reduceEqDiff,Nat.add_one_ne_zero,reduceCtorEq])|(refine Pwp.skip ?_;simp only [thenS,blockS])|(refine Pwp.cond rfl True.intro (fun h=>?_) (fun h=>?_)<;>(try (cases h;done))<;>(try simp only [h]))|refine Pwp.ret ?_|(refine hK _ ?_;clear hK K)|(refine hK _ _ rfl ?_;clear hK K)|refine CallG.off ?_|with_reducible refine Or.inl ?_|simp only [thenS,blockS]|with_reducible refine And.intro ?_ ?_|with_reducible exact True.intro|simp (dsimp:=false) only [↓gq,↓stepP,↓stepG,go_sem,hs])
    all_goals (try (first|(intro hg;simp [hg];done)|exact of_decide_eq_true rfl|(cases h;done)))
    (refine Fin.data (.inr rfl) (by simp (dsimp:=false) only [↓gq,↓stepP,↓stepG,go_sem,resL]; rfl) (by simp only [and_self]) (by simp (dsimp:=false) only [↓gq,↓stepP,↓stepG,go_sem,resP,Nat.le_refl,List.take_length]; try rfl) ?_)
    simp [sentsD]
  | false =>
    rw [if_neg (by simp)]
    cases hv : d.vot.getD f false with
    | true =>
      rw [if_pos rfl, e1]
      rw [hv] at hg
      unfold chD runP VMsg.msg Msg.d Msg.cells
      refine Runs.of (kit Try.prog) Try.func150 rfl rfl (by rw [Try.ntmps150]; exact of_decide_eq_true rfl) ?_; rw [Try.ntmps150, Try.results150]
      repeat' (first|((first|refine goA rfl fun K hK=>?_|refine goB rfl fun K hK=>?_|refine goC rfl rfl fun K hK=>?_|refine goD rfl rfl fun K hK=>?_);simp (dsimp:=false) only [↓gq,↓stepP,↓stepG,go_sem,hs,hg,pf,hf])|refine Pwp.seq ?_|refine Pwp.block ?_|(refine Pwp.exit ?_;simp only [thenS,blockS,if_true,if_false,reduceIte,Nat.reduceEqDiff,Nat.add_one_ne_zero,reduceCtorEq])|(refine Pwp.skip ?_;simp only [thenS,blockS])|(refine Pwp.cond rfl True.intro (fun h=>?_) (fun h=>?_)<;>(try (cases h;done))<;>(try simp only [h]))|refine Pwp.ret ?_|(refine hK _ ?_;clear hK K)|(refine hK _ _ rfl ?_;clear hK K)|refine CallG.off ?_|with_reducible refine Or.inl ?_|simp only [thenS,blockS]|with_reducible refine And.intro ?_ ?_|with_reducible exact True.intro|simp (dsimp:=false) only [↓gq,↓stepP,↓stepG,go_sem,hs,hg,pf,hf])
      all_goals (try (first|(intro hg;simp [hg];done)|exact of_decide_eq_true rfl|(cases h;done)))
      all_goals (try (first | omega | exact ⟨by omega, by omega⟩))
      (refine Fin.data (.inr rfl) (by simp (dsimp:=false) only [↓gq,↓stepP,↓stepG,go_sem,resL]; rfl) (by simp only [and_self]) (by simp (dsimp:=false) only [↓gq,↓stepP,↓stepG,go_sem,resP,Nat.le_refl,List.take_length]; try rfl) ?_)
      simp [sentsD]
    | false =>
      rw [if_neg (by simp)]
      rw [hv] at hg
      have r206 := run206 n (votB d f) hn
      have rF := run152 n rs m.cycle (votB d f) false hn (by omega) h1 h2
      have rT := run152 n rs m.cycle (votB d f) true hn (by omega) h1 h2
      have rP := run205 n rs m.cycle (votB d f) (by omega) h1 h2
      rw [e1] at rF rT
      unfold runC at rF rT rP
      simp only [votB] at rF rT rP
      rw [show ({ d with vot := d.vot.set f true } : DRun) = votB d f from rfl] at rF rT rP
      simp only [Bool.false_eq_true, if_false, if_true] at rF rT
      cases hy : m.yes with
      | false =>
        rw [if_pos rfl, e1]
        generalize sentsD _ = Y at *
        generalize (cEnd n rs m.cycle (votB d f) false).rs = X at *
        unfold chD runP VMsg.msg Msg.d Msg.cells at *
        refine Runs.of (kit Try.prog) Try.func150 rfl rfl (by rw [Try.ntmps150]; exact of_decide_eq_true rfl) ?_; rw [Try.ntmps150, Try.results150]
        repeat' (first|((first|refine goA rfl fun K hK=>?_|refine goB rfl fun K hK=>?_|refine goC rfl rfl fun K hK=>?_|refine goD rfl rfl fun K hK=>?_);simp (dsimp:=false) only [↓gq,↓stepP,↓stepG,go_sem,hs,hg,pf,hf,hy,← hset,hfl])|refine Pwp.seq ?_|refine Pwp.block ?_|(refine Pwp.exit ?_;simp only [thenS,blockS,if_true,if_false,reduceIte,Nat.reduceEqDiff,Nat.add_one_ne_zero,reduceCtorEq])|(refine Pwp.skip ?_;simp only [thenS,blockS])|(refine Pwp.cond rfl True.intro (fun h=>?_) (fun h=>?_)<;>(try (cases h;done))<;>(try simp only [h]))|refine Pwp.ret ?_|(refine hK _ ?_;clear hK K)|(refine hK _ _ rfl ?_;clear hK K)|(refine CallK.give (ds:=[.agg [I64 n, .slc 5 (runsC n rs)], I64 m.cycle, .agg [I64 d.cur, I64 d.st, .slc 3 (frD n (votB d f)), .slc 4 (linesD d.ls), .slc 1 (d.ns.map I64)], I64 4]) (by simp [toDL, PVal.toD, find, hfl2, htk2]) rF (by simp) ?_)|refine CallG.off ?_|with_reducible refine Or.inl ?_|simp only [thenS,blockS]|with_reducible refine And.intro ?_ ?_|with_reducible exact True.intro|simp (dsimp:=false) only [↓gq,↓stepP,↓stepG,go_sem,hs,hg,pf,hf,hy,← hset,hfl])
        all_goals (try (first|(intro hg;simp [hg];done)|exact of_decide_eq_true rfl|(cases h;done)))
        all_goals (try (first | omega | exact ⟨by omega, by omega⟩))
        (refine Fin.data (.inr rfl) (by simp (dsimp:=false) only [↓gq,↓stepP,↓stepG,go_sem,resL]; rfl) (by simp only [and_self]) (by simp (dsimp:=false) only [↓gq,↓stepP,↓stepG,go_sem,resP,Nat.le_refl,List.take_length]; try rfl) ?_)
        exact subD_refl _
      | true =>
        rw [if_neg (by simp)]
        cases ho : okB (votB d f).vot n with
        | false =>
          rw [ho] at r206
          rw [if_pos rfl, e1]
          generalize cPut rs m.cycle (votB d f) = X at *
          unfold fn7 at r206
          unfold chD runP VMsg.msg Msg.d Msg.cells at *
          refine Runs.of (kit Try.prog) Try.func150 rfl rfl (by rw [Try.ntmps150]; exact of_decide_eq_true rfl) ?_; rw [Try.ntmps150, Try.results150]
          repeat' (first|((first|refine goA rfl fun K hK=>?_|refine goB rfl fun K hK=>?_|refine goC rfl rfl fun K hK=>?_|refine goD rfl rfl fun K hK=>?_);simp (dsimp:=false) only [↓gq,↓stepP,↓stepG,go_sem,hs,hg,pf,hf,hy,← hset,hfl])|refine Pwp.seq ?_|refine Pwp.block ?_|(refine Pwp.exit ?_;simp only [thenS,blockS,if_true,if_false,reduceIte,Nat.reduceEqDiff,Nat.add_one_ne_zero,reduceCtorEq])|(refine Pwp.skip ?_;simp only [thenS,blockS])|(refine Pwp.cond rfl True.intro (fun h=>?_) (fun h=>?_)<;>(try (cases h;done))<;>(try simp only [h]))|refine Pwp.ret ?_|(refine hK _ ?_;clear hK K)|(refine hK _ _ rfl ?_;clear hK K)|(refine CallK.toD (ds:=[.slc 3 (frD n (votB d f)), .v (.func (.func 207) #[] #[])]) (by simp [toDL, PVal.toD, find, hfl2, htk2]) r206 rfl ?_)|(refine CallK.give (ds:=[.agg [I64 n, .slc 5 (runsC n rs)], I64 m.cycle, .agg [I64 d.cur, I64 d.st, .slc 3 (frD n (votB d f)), .slc 4 (linesD d.ls), .slc 1 (d.ns.map I64)]]) (by simp [toDL, PVal.toD, find, hfl2, htk2]) rP (by simp) ?_)|refine CallG.off ?_|with_reducible refine Or.inl ?_|simp only [thenS,blockS]|with_reducible refine And.intro ?_ ?_|with_reducible exact True.intro|simp (dsimp:=false) only [↓gq,↓stepP,↓stepG,go_sem,hs,hg,pf,hf,hy,← hset,hfl])
          all_goals (try (first|(intro hg;simp [hg];done)|exact of_decide_eq_true rfl|(cases h;done)))
          all_goals (try (first | omega | exact ⟨by omega, by omega⟩))
          (refine Fin.data (.inr rfl) (by simp (dsimp:=false) only [↓gq,↓stepP,↓stepG,go_sem,resL]; rfl) (by simp only [and_self]) (by simp (dsimp:=false) only [↓gq,↓stepP,↓stepG,go_sem,resP,Nat.le_refl,List.take_length]; try rfl) ?_)
          simp [sentsD]
        | true =>
          rw [ho] at r206
          rw [if_neg (by simp), e1]
          generalize sentsD _ = Y at *
          generalize (cEnd n rs m.cycle (votB d f) true).rs = X at *
          unfold fn7 at r206
          unfold chD runP VMsg.msg Msg.d Msg.cells at *
          refine Runs.of (kit Try.prog) Try.func150 rfl rfl (by rw [Try.ntmps150]; exact of_decide_eq_true rfl) ?_; rw [Try.ntmps150, Try.results150]
          repeat' (first|((first|refine goA rfl fun K hK=>?_|refine goB rfl fun K hK=>?_|refine goC rfl rfl fun K hK=>?_|refine goD rfl rfl fun K hK=>?_);simp (dsimp:=false) only [↓gq,↓stepP,↓stepG,go_sem,hs,hg,pf,hf,hy,← hset,hfl])|refine Pwp.seq ?_|refine Pwp.block ?_|(refine Pwp.exit ?_;simp only [thenS,blockS,if_true,if_false,reduceIte,Nat.reduceEqDiff,Nat.add_one_ne_zero,reduceCtorEq])|(refine Pwp.skip ?_;simp only [thenS,blockS])|(refine Pwp.cond rfl True.intro (fun h=>?_) (fun h=>?_)<;>(try (cases h;done))<;>(try simp only [h]))|refine Pwp.ret ?_|(refine hK _ ?_;clear hK K)|(refine hK _ _ rfl ?_;clear hK K)|(refine CallK.toD (ds:=[.slc 3 (frD n (votB d f)), .v (.func (.func 207) #[] #[])]) (by simp [toDL, PVal.toD, find, hfl2, htk2]) r206 rfl ?_)|(refine CallK.give (ds:=[.agg [I64 n, .slc 5 (runsC n rs)], I64 m.cycle, .agg [I64 d.cur, I64 d.st, .slc 3 (frD n (votB d f)), .slc 4 (linesD d.ls), .slc 1 (d.ns.map I64)], I64 3]) (by simp [toDL, PVal.toD, find, hfl2, htk2]) rT (by simp) ?_)|refine CallG.off ?_|with_reducible refine Or.inl ?_|simp only [thenS,blockS]|with_reducible refine And.intro ?_ ?_|with_reducible exact True.intro|simp (dsimp:=false) only [↓gq,↓stepP,↓stepG,go_sem,hs,hg,pf,hf,hy,← hset,hfl])
          all_goals (try (first|(intro hg;simp [hg];done)|exact of_decide_eq_true rfl|(cases h;done)))
          all_goals (try (first | omega | exact ⟨by omega, by omega⟩))
          (refine Fin.data (.inr rfl) (by simp (dsimp:=false) only [↓gq,↓stepP,↓stepG,go_sem,resL]; rfl) (by simp only [and_self]) (by simp (dsimp:=false) only [↓gq,↓stepP,↓stepG,go_sem,resP,Nat.le_refl,List.take_length]; try rfl) ?_)
          exact subD_refl _
theorem mine_any (me : Int) : ∀ ls : List Line, (((mineL me ls).length : Int) != (ls.length : Int)) = ls.any (notMine me) := by
  intro ls
  have key : (mineL me ls).length = ls.length ↔ ¬ ls.any (notMine me) = true := by
    unfold mineL
    rw [List.length_filter_eq_length_iff, List.any_eq_true]
    constructor
    · rintro h ⟨x, hx, hn⟩
      have := h x hx
      rw [hn] at this; cases this
    · intro h x hx
      cases hn : notMine me x with
      | false => rfl
      | true => exact absurd ⟨x, hx, hn⟩ h
  rw [Bool.eq_iff_iff, bne_iff_ne, ne_eq, Int.natCast_inj, key, Decidable.not_not]
def L149 (n : Nat) (rs : List DRun) (cur st : Int) (fr : List D) (ofs : List (List Line)) (ls : List Line) (ns : List Int) (m : VMsg) (i : Nat) : St :=
  ⟨[(67, pint .i64 i), (66, pint .i64 n), (65, .own 0 0 3 0 n), (12, .own 60 0 1 0 i), (8, .ref 11 0), (6, .ref 10 0), (5, .ref 9 0), (4, .ref 8 0)],
   [(8, .box [.d (I64 n), .d (.slc 5 (runsC n rs))]), (9, .box [.d (I64 cur), .d (I64 st), .own 0 0 3 0 n, .d (.slc 4 (linesD ls)), .d (.slc 1 (ns.map I64))]), (10, boxV m), (11, .box [.d (I64 0), .d nilD]), (0, .arr 193 3 0 none fr), (60, .arr 92 1 0 none (offersD (ofs.take i)))], 228⟩
theorem offers_take {ofs : List (List Line)} {i : Nat} (h : i < ofs.length) : offersD (ofs.take (i + 1)) = offersD (ofs.take i) ++ [.slc 4 (linesD (ofs.getD i []))] := by
  unfold offersD
  rw [List.take_add_one, List.getD_eq_getElem?_getD, List.getElem?_eq_getElem h, List.map_append]
  rfl
set_option maxHeartbeats 64000000 in
theorem run149 (n : Nat) (rs : List DRun) (d : DRun) (m : VMsg) (f : Nat) (hn : n ≤ 8) (hd : RunOK n d) (hf : f < n) (hl : rs.length ≤ 10000) (h1 : 1 ≤ m.cycle) (h2 : m.cycle ≤ (rs.length : Int)) (hml : m.ls.length ≤ 100) :
    Runs Try.prog 149 [.d (chD n rs), runP 0 n d, .d m.msg.d, pint .i64 f] [(0, .arr 193 3 0 none (frD n d))] (.d (cOutD n (cOffer n rs d m.cycle m.ls f))) [] := by
  have e1 : ∀ r : DOut, cOutD n r = .tup [chD n r.rs, .slc 12 (sentsD r.o), I64 r.e] := fun _ => rfl
  have hfl := frD_len n d
  have hg := frD_get hf d
  have pf : (0 : Int) ≤ (f : Int) := by omega
  have ho8 := hd.off
  have hf8 := hd.ofs
  have hll := lines_len m.ls
  have r88 := run88d f m.ls (by omega)
  have hlm := lines_len (mineL f m.ls)
  have hma := mine_any f m.ls
  have r82 := run82 n m.ls (by omega)
  have r133 := run133 (linesD m.ls) (lines_one m.ls) (by omega)
  rw [hll] at r133
  have htl : (linesD m.ls).take m.ls.length = linesD m.ls := List.take_of_length_le (by omega)
  unfold cOffer
  cases hs : (d.st != 1) with
  | true =>
    rw [if_pos rfl, e1]
    unfold chD runP VMsg.msg Msg.d Msg.cells
    refine Runs.of (kit Try.prog) Try.func149 rfl rfl (by rw [Try.ntmps149]; exact of_decide_eq_true rfl) ?_; rw [Try.ntmps149, Try.results149]
    repeat' (first|((first|refine goA rfl fun K hK=>?_|refine goB rfl fun K hK=>?_|refine goC rfl rfl fun K hK=>?_|refine goD rfl rfl fun K hK=>?_);simp (dsimp:=false) only [↓gq,↓stepP,↓stepG,go_sem,hs])|refine Pwp.seq ?_|refine Pwp.block ?_|(refine Pwp.exit ?_;simp only [thenS,blockS,if_true,if_false,reduceIte,Nat.reduceEqDiff,Nat.add_one_ne_zero,reduceCtorEq])|(refine Pwp.skip ?_;simp only [thenS,blockS])|(refine Pwp.cond rfl True.intro (fun h=>?_) (fun h=>?_)<;>(try (cases h;done))<;>(try simp only [h]))|refine Pwp.ret ?_|(refine hK _ ?_;clear hK K)|(refine hK _ _ rfl ?_;clear hK K)|refine CallG.off ?_|with_reducible refine Or.inl ?_|simp only [thenS,blockS]|with_reducible refine And.intro ?_ ?_|with_reducible exact True.intro|simp (dsimp:=false) only [↓gq,↓stepP,↓stepG,go_sem,hs])
    all_goals (try (first|(intro hg;simp [hg];done)|exact of_decide_eq_true rfl|(cases h;done)))
    (refine Fin.data (.inr rfl) (by simp (dsimp:=false) only [↓gq,↓stepP,↓stepG,go_sem,resL]; rfl) (by simp only [and_self]) (by simp (dsimp:=false) only [↓gq,↓stepP,↓stepG,go_sem,resP,Nat.le_refl,List.take_length]; try rfl) ?_)
    simp [sentsD]
  | false =>
    rw [if_neg (by simp)]
    cases hv : d.off.getD f false with
    | true =>
      rw [if_pos rfl, e1]
      rw [hv] at hg
      unfold chD runP VMsg.msg Msg.d Msg.cells
      refine Runs.of (kit Try.prog) Try.func149 rfl rfl (by rw [Try.ntmps149]; exact of_decide_eq_true rfl) ?_; rw [Try.ntmps149, Try.results149]
      repeat' (first|((first|refine goA rfl fun K hK=>?_|refine goB rfl fun K hK=>?_|refine goC rfl rfl fun K hK=>?_|refine goD rfl rfl fun K hK=>?_);simp (dsimp:=false) only [↓gq,↓stepP,↓stepG,go_sem,hs,hg,pf,hf])|refine Pwp.seq ?_|refine Pwp.block ?_|(refine Pwp.exit ?_;simp only [thenS,blockS,if_true,if_false,reduceIte,Nat.reduceEqDiff,Nat.add_one_ne_zero,reduceCtorEq])|(refine Pwp.skip ?_;simp only [thenS,blockS])|(refine Pwp.cond rfl True.intro (fun h=>?_) (fun h=>?_)<;>(try (cases h;done))<;>(try simp only [h]))|refine Pwp.ret ?_|(refine hK _ ?_;clear hK K)|(refine hK _ _ rfl ?_;clear hK K)|refine CallG.off ?_|with_reducible refine Or.inl ?_|simp only [thenS,blockS]|with_reducible refine And.intro ?_ ?_|with_reducible exact True.intro|simp (dsimp:=false) only [↓gq,↓stepP,↓stepG,go_sem,hs,hg,pf,hf])
      all_goals (try (first|(intro hg;simp [hg];done)|exact of_decide_eq_true rfl|(cases h;done)))
      all_goals (try (first | omega | exact ⟨by omega, by omega⟩))
      (refine Fin.data (.inr rfl) (by simp (dsimp:=false) only [↓gq,↓stepP,↓stepG,go_sem,resL]; rfl) (by simp only [and_self]) (by simp (dsimp:=false) only [↓gq,↓stepP,↓stepG,go_sem,resP,Nat.le_refl,List.take_length]; try rfl) ?_)
      simp [sentsD]
    | false =>
      rw [if_neg (by simp)]
      rw [hv] at hg
      cases ha : m.ls.any (notMine f) with
      | true =>
        rw [if_pos rfl, e1]
        rw [ha] at hma
        unfold chD runP VMsg.msg Msg.d Msg.cells
        refine Runs.of (kit Try.prog) Try.func149 rfl rfl (by rw [Try.ntmps149]; exact of_decide_eq_true rfl) ?_; rw [Try.ntmps149, Try.results149]
        repeat' (first|((first|refine goA rfl fun K hK=>?_|refine goB rfl fun K hK=>?_|refine goC rfl rfl fun K hK=>?_|refine goD rfl rfl fun K hK=>?_);simp (dsimp:=false) only [↓gq,↓stepP,↓stepG,go_sem,hs,hg,pf,hf,hlm,hll,hma])|refine Pwp.seq ?_|refine Pwp.block ?_|(refine Pwp.exit ?_;simp only [thenS,blockS,if_true,if_false,reduceIte,Nat.reduceEqDiff,Nat.add_one_ne_zero,reduceCtorEq])|(refine Pwp.skip ?_;simp only [thenS,blockS])|(refine Pwp.cond rfl True.intro (fun h=>?_) (fun h=>?_)<;>(try (cases h;done))<;>(try simp only [h]))|refine Pwp.ret ?_|(refine hK _ ?_;clear hK K)|(refine hK _ _ rfl ?_;clear hK K)|(refine CallK.give (ds:=[I64 f, .slc 4 (linesD m.ls)]) rfl (r88) (by simp) ?_)|refine CallG.off ?_|with_reducible refine Or.inl ?_|simp only [thenS,blockS]|with_reducible refine And.intro ?_ ?_|with_reducible exact True.intro|simp (dsimp:=false) only [↓gq,↓stepP,↓stepG,go_sem,hs,hg,pf,hf,hlm,hll,hma])
        all_goals (try (first|(intro hg;simp [hg];done)|exact of_decide_eq_true rfl|(cases h;done)))
        all_goals (try (first | omega | exact ⟨by omega, by omega⟩))
        (refine Fin.data (.inr rfl) (by simp (dsimp:=false) only [↓gq,↓stepP,↓stepG,go_sem,resL]; rfl) (by simp only [and_self]) (by simp (dsimp:=false) only [↓gq,↓stepP,↓stepG,go_sem,resP,Nat.le_refl,List.take_length]; try rfl) ?_)
        simp [sentsD]
      | false =>
        rw [if_neg (by simp)]
        rw [ha] at hma
        cases hfi : (fitV n none m.ls != 0) with
        | true =>
          rw [if_pos rfl, e1]
          generalize fitV n none m.ls = e at *
          unfold chD runP VMsg.msg Msg.d Msg.cells
          refine Runs.of (kit Try.prog) Try.func149 rfl rfl (by rw [Try.ntmps149]; exact of_decide_eq_true rfl) ?_; rw [Try.ntmps149, Try.results149]
          repeat' (first|((first|refine goA rfl fun K hK=>?_|refine goB rfl fun K hK=>?_|refine goC rfl rfl fun K hK=>?_|refine goD rfl rfl fun K hK=>?_);simp (dsimp:=false) only [↓gq,↓stepP,↓stepG,go_sem,hs,hg,pf,hf,hlm,hll,hma,hfi])|refine Pwp.seq ?_|refine Pwp.block ?_|(refine Pwp.exit ?_;simp only [thenS,blockS,if_true,if_false,reduceIte,Nat.reduceEqDiff,Nat.add_one_ne_zero,reduceCtorEq])|(refine Pwp.skip ?_;simp only [thenS,blockS])|(refine Pwp.cond rfl True.intro (fun h=>?_) (fun h=>?_)<;>(try (cases h;done))<;>(try simp only [h]))|refine Pwp.ret ?_|(refine hK _ ?_;clear hK K)|(refine hK _ _ rfl ?_;clear hK K)|(refine CallK.toD (ds:=[I64 n, .slc 4 (linesD m.ls)]) rfl (r82) rfl ?_)|(refine CallK.give (ds:=[I64 f, .slc 4 (linesD m.ls)]) rfl (r88) (by simp) ?_)|refine CallG.off ?_|with_reducible refine Or.inl ?_|simp only [thenS,blockS]|with_reducible refine And.intro ?_ ?_|with_reducible exact True.intro|simp (dsimp:=false) only [↓gq,↓stepP,↓stepG,go_sem,hs,hg,pf,hf,hlm,hll,hma,hfi])
          all_goals (try (first|(intro hg;simp [hg];done)|exact of_decide_eq_true rfl|(cases h;done)))
          all_goals (try (first | omega | exact ⟨by omega, by omega⟩))
          (refine Fin.data (.inr rfl) (by simp (dsimp:=false) only [↓gq,↓stepP,↓stepG,go_sem,resL]; rfl) (by simp only [and_self]) (by simp (dsimp:=false) only [↓gq,↓stepP,↓stepG,go_sem,resP,Nat.le_refl,List.take_length]; try rfl) ?_)
          simp [sentsD]
        | false =>
          rw [if_neg (by simp)]
          have hfit : fitV n none m.ls = 0 := by simpa using hfi
          have hd' := hd.offB (f := f) hfit hml
          have hA : ((frD n d).set f (.agg [.v (.bool true), .v (.bool (d.vot.getD f false)), .slc 4 (linesD (d.ofs.getD f []))]))[f]? = some (.agg [.v (.bool true), .v (.bool (d.vot.getD f false)), .slc 4 (linesD (d.ofs.getD f []))]) := List.getElem?_set_self (by omega)
          have hB : ((frD n d).set f (.agg [.v (.bool true), .v (.bool (d.vot.getD f false)), .slc 4 (linesD (d.ofs.getD f []))])).set f (.agg [.v (.bool true), .v (.bool (d.vot.getD f false)), .slc 4 (linesD m.ls)]) = frD n (offB d f m.ls) := by
            rw [List.set_set, ← frD_offB (d := d) hf (by omega) (by omega)]
          have hfl2 := frD_len n (offB d f m.ls)
          have hgn : ∀ i, i < n → (frD n (offB d f m.ls))[i]? = some (.agg [.v (.bool ((offB d f m.ls).off.getD i false)), .v (.bool ((offB d f m.ls).vot.getD i false)), .slc 4 (linesD ((offB d f m.ls).ofs.getD i []))]) := fun i hi => frD_get hi _
          rw [hfit] at r82
          have hst1 : d.st = 1 := by simpa using hs
          have hbl := hd'.both
          have hbp := both_pair (n := n) ((offB d f m.ls).ofs.take n) ((offB d f m.ls).ofs.take n) 0 (fun o ho => (hd'.fit o (List.mem_of_mem_take ho)).1)
          have hio := pair_ord hbp.1
          have r85 := run85 ((offB d f m.ls).ofs.take n) (by rw [List.length_take]; omega) (by have := hd'.sum; omega) (sorts _ hio (by unfold bothN bothL at hbl; unfold bothL; omega)) hio
          have r80 := run80 n (bothN n (offB d f m.ls)) (by omega)
          have r205 := run205 n rs m.cycle (offB d f m.ls) (by omega) h1 h2
          have r152 := run152 n rs m.cycle (offB d f m.ls) false hn (by omega) h1 h2
          have rB := run205 n rs m.cycle (prepB n (offB d f m.ls)) (by omega) h1 h2
          have r204 := run204 n rs (prepV m.cycle (bothN n (offB d f m.ls)) (outs n (bothN n (offB d f m.ls)))) hn (by simp only [prepV]; omega) (by simp only [prepV, outs_len]; omega)
          have c205 : runC n (offB d f m.ls) = [I64 d.cur, I64 d.st, .slc 3 (frD n (offB d f m.ls)), .slc 4 (linesD d.ls), .slc 1 (d.ns.map I64)] := rfl
          have cB : runC n (prepB n (offB d f m.ls)) = [I64 d.cur, I64 2, .slc 3 (frD n (offB d f m.ls)), .slc 4 (linesD (bothN n (offB d f m.ls))), .slc 1 ((outs n (bothN n (offB d f m.ls))).map I64)] := rfl
          rw [c205] at r205 r152
          rw [cB] at rB
          have hbr : bothL ((offB d f m.ls).ofs.take n) = bothN n (offB d f m.ls) := rfl
          rw [hbr] at r85
          have hol := hd'.ofs
          have hlb := lines_len (bothN n (offB d f m.ls))
          simp only [Bool.false_eq_true, if_false] at r152
          rw [e1] at r152
          unfold badB
          have hnv : netsE n (bothN n (offB d f m.ls)) = 0 → netsV n (bothN n (offB d f m.ls)) = outs n (bothN n (offB d f m.ls)) := fun h => by unfold netsV; rw [if_pos h, Int.toNat_natCast]
          unfold netsD at r80
          generalize hE1 : cEnd n rs m.cycle (offB d f m.ls) false = E1 at *
          generalize cPut rs m.cycle (offB d f m.ls) = rs1 at *
          generalize cPut rs m.cycle (prepB n (offB d f m.ls)) = rs2 at *
          generalize bothN n (offB d f m.ls) = bs at *
          generalize frD n (offB d f m.ls) = fr at *
          generalize (offB d f m.ls).off = off' at *
          generalize (offB d f m.ls).vot = vot' at *
          generalize (offB d f m.ls).ofs = ofs' at *
          have htf : fr.take n = fr := List.take_of_length_le (by omega)
          generalize allV n (prepV m.cycle bs (outs n bs)) = A4 at *
          unfold VMsg.msg prepV Msg.d Msg.cells at r204
          simp only at r204
          unfold chD runP VMsg.msg Msg.d Msg.cells
          unfold chD at r205 r152 rB r204
          refine Runs.of (kit Try.prog) Try.func149 rfl rfl (by rw [Try.ntmps149]; exact of_decide_eq_true rfl) ?_; rw [Try.ntmps149, Try.results149]
          repeat' (first|((first|refine goA rfl fun K hK=>?_|refine goB rfl fun K hK=>?_|refine goC rfl rfl fun K hK=>?_|refine goD rfl rfl fun K hK=>?_);simp (dsimp:=false) only [↓gq,↓stepP,↓stepG,go_sem,hs,hg,pf,hf,hlm,hll,hma,hA,hB,hfl,htl,Nat.le_refl,bne_self_eq_false])|refine Pwp.seq ?_|refine Pwp.block ?_|(refine Pwp.exit ?_;simp only [thenS,blockS,if_true,if_false,reduceIte,Nat.reduceEqDiff,Nat.add_one_ne_zero,reduceCtorEq])|(refine Pwp.skip ?_;simp only [thenS,blockS])|(refine Pwp.cond rfl True.intro (fun h=>?_) (fun h=>?_)<;>(try (cases h;done))<;>(try simp only [h]))|refine Pwp.ret ?_|(refine hK _ ?_;clear hK K)|(refine hK _ _ rfl ?_;clear hK K)|(refine CallK.toD (ds:=[I64 n, .slc 4 (linesD m.ls)]) rfl (r82) rfl ?_)|(refine CallK.give (ds:=[I64 f, .slc 4 (linesD m.ls)]) rfl (r88) (by simp) ?_)|(refine CallK.give (ds:=[.slc 4 (linesD m.ls)]) rfl (r133) (by simp) ?_)|refine CallG.off ?_|with_reducible refine Or.inl ?_|simp only [thenS,blockS]|with_reducible refine And.intro ?_ ?_|with_reducible exact True.intro|simp (dsimp:=false) only [↓gq,↓stepP,↓stepG,go_sem,hs,hg,pf,hf,hlm,hll,hma,hA,hB,hfl,htl,Nat.le_refl,bne_self_eq_false])
          all_goals (try (first|(intro hg;simp [hg];done)|exact of_decide_eq_true rfl|(cases h;done)))
          all_goals (try (first | omega | exact ⟨by omega, by omega⟩))
          refine Pwp.rangeI n (fun i s => (∀ k, k < i → off'.getD k false = true) ∧ s = L149 n rs d.cur d.st fr ofs' d.ls d.ns m i) (s0 := L149 n rs d.cur d.st fr ofs' d.ls d.ns m 0) (Sub.view (VN 60) (by simp [L149]) rfl (by simp [L149,boxV,offersD,hB]) (by simp [L149,boxV,offersD,hB])) ⟨by omega, rfl⟩ ?_ ?_
          · rintro i s hi ⟨hok, rfl⟩
            have c1 := dlt hi
            have w1 := wrap_succ (i := i) (by omega)
            have hgi := hgn i hi
            have hoi := offers_take (ofs := ofs') (i := i) (by omega)
            have hon : (offersD (ofs'.take i)).length = i := by rw [offers_len, List.length_take]; omega
            have hot : (offersD (ofs'.take i)).take i = offersD (ofs'.take i) := List.take_of_length_le (by omega)
            have pi : (0 : Int) ≤ (i : Int) := by omega
            cases hoff : off'.getD i false with
            | false =>
              have hno : okB off' n = false := by
                unfold okB
                rw [List.all_eq_false]
                exact ⟨i, List.mem_range.2 hi, by rw [hoff]; simp⟩
              rw [if_pos hno, e1]
              rw [hoff] at hgi
              unfold chD
              unfold L149 boxV
              repeat' (first|((first|refine goA rfl fun K hK=>?_|refine goB rfl fun K hK=>?_|refine goC rfl rfl fun K hK=>?_|refine goD rfl rfl fun K hK=>?_);simp (dsimp:=false) only [↓gq,↓stepP,↓stepG,go_sem,c1,w1,hgi,hi,pi])|refine Pwp.seq ?_|refine Pwp.block ?_|(refine Pwp.exit ?_;simp only [thenS,blockS,if_true,if_false,reduceIte,Nat.reduceEqDiff,Nat.add_one_ne_zero,reduceCtorEq])|(refine Pwp.skip ?_;simp only [thenS,blockS])|(refine Pwp.cond rfl True.intro (fun h=>?_) (fun h=>?_)<;>(try (cases h;done))<;>(try simp only [h]))|refine Pwp.ret ?_|(refine hK _ ?_;clear hK K)|(refine hK _ _ rfl ?_;clear hK K)|(refine CallK.give (ds:=[.agg [I64 n, .slc 5 (runsC n rs)], I64 m.cycle, .agg [I64 d.cur, I64 d.st, .slc 3 fr, .slc 4 (linesD d.ls), .slc 1 (d.ns.map I64)]]) (by simp [toDL, PVal.toD, find, hfl2, htf]) r205 (by simp) ?_)|refine CallG.off ?_|with_reducible refine Or.inl ?_|simp only [thenS,blockS]|with_reducible refine And.intro ?_ ?_|with_reducible exact True.intro|simp (dsimp:=false) only [↓gq,↓stepP,↓stepG,go_sem,c1,w1,hgi,hi,pi])
              all_goals (try (first|(intro hg;simp [hg];done)|exact of_decide_eq_true rfl|(cases h;done)))
              all_goals (try (first | omega | exact ⟨by omega, by omega⟩))
              (refine Fin.data (.inr rfl) (by simp (dsimp:=false) only [↓gq,↓stepP,↓stepG,go_sem,resL]; rfl) (by simp only [and_self]) (by simp (dsimp:=false) only [↓gq,↓stepP,↓stepG,go_sem,resP,Nat.le_refl,List.take_length]; try rfl) ?_)
              simp [sentsD]
            | true =>
              rw [hoff] at hgi
              unfold L149 boxV
              repeat' (first|((first|refine goA rfl fun K hK=>?_|refine goB rfl fun K hK=>?_|refine goC rfl rfl fun K hK=>?_|refine goD rfl rfl fun K hK=>?_);simp (dsimp:=false) only [↓gq,↓stepP,↓stepG,go_sem,c1,w1,hgi,hi,pi,hon,hot])|refine Pwp.seq ?_|refine Pwp.block ?_|(refine Pwp.exit ?_;simp only [thenS,blockS,if_true,if_false,reduceIte,Nat.reduceEqDiff,Nat.add_one_ne_zero,reduceCtorEq])|(refine Pwp.skip ?_;simp only [thenS,blockS])|(refine Pwp.cond rfl True.intro (fun h=>?_) (fun h=>?_)<;>(try (cases h;done))<;>(try simp only [h]))|refine Pwp.ret ?_|(refine hK _ ?_;clear hK K)|(refine hK _ _ rfl ?_;clear hK K)|refine CallG.off ?_|with_reducible refine Or.inl ?_|simp only [thenS,blockS]|with_reducible refine And.intro ?_ ?_|with_reducible exact True.intro|simp (dsimp:=false) only [↓gq,↓stepP,↓stepG,go_sem,c1,w1,hgi,hi,pi,hon,hot])
              all_goals (try (first|(intro hg;simp [hg];done)|exact of_decide_eq_true rfl|(cases h;done)))
              all_goals (try (first | omega | exact ⟨by omega, by omega⟩ | (simp [maxLen]; omega) | (simp [hon]; done)))
              refine ⟨_, Sub.view (VR 60 1) (by simp [L149]) rfl (by simp [L149,boxV,hoi]) (by simp [L149,boxV,hoi]), fun k hk => ?_, rfl⟩
              rcases Nat.lt_or_ge k i with h | h
              · exact hok k h
              · obtain rfl : k = i := by omega
                exact hoff
          · rintro s ⟨hok, rfl⟩
            have c1 := dge (Nat.le_refl n)
            have hyo : okB off' n = true := by
              unfold okB
              rw [List.all_eq_true]
              exact fun k hk => hok k (List.mem_range.1 hk)
            have hon : (offersD (ofs'.take n)).length = n := by rw [offers_len, List.length_take]; omega
            have hot : (offersD (ofs'.take n)).take n = offersD (ofs'.take n) := List.take_of_length_le (by omega)
            rw [if_neg (by rw [hyo]; simp)]
            cases hbad : (netsE n bs != 0 || decide (1024 < (bs.length : Int))) with
            | true =>
              rw [if_pos rfl, e1]
              generalize sentsD E1.o = Y at *
              generalize E1.rs = X at *
              generalize E1.e = Z at *
              generalize netsE n bs = ne at *
              generalize (netsV n bs).map I64 = nv at *
              unfold chD
              unfold L149 boxV
              repeat' (first|((first|refine goA rfl fun K hK=>?_|refine goB rfl fun K hK=>?_|refine goC rfl rfl fun K hK=>?_|refine goD rfl rfl fun K hK=>?_);simp (dsimp:=false) only [↓gq,↓stepP,↓stepG,go_sem,c1,hlb,hbad])|refine Pwp.seq ?_|refine Pwp.block ?_|(refine Pwp.exit ?_;simp only [thenS,blockS,if_true,if_false,reduceIte,Nat.reduceEqDiff,Nat.add_one_ne_zero,reduceCtorEq])|(refine Pwp.skip ?_;simp only [thenS,blockS])|(refine Pwp.cond rfl True.intro (fun h=>?_) (fun h=>?_)<;>(try (cases h;done))<;>(try simp only [h]))|refine Pwp.ret ?_|(refine hK _ ?_;clear hK K)|(refine hK _ _ rfl ?_;clear hK K)|(refine CallK.give (ds:=[.slc 1 (offersD (ofs'.take n))]) (by simp [toDL, PVal.toD, find, hon, hot]) r85 (by simp) ?_)|(refine CallK.give (ds:=[I64 n, .slc 4 (linesD bs)]) rfl r80 (by simp) ?_)|(refine CallK.give (ds:=[.agg [I64 n, .slc 5 (runsC n rs)], I64 m.cycle, .agg [I64 d.cur, I64 d.st, .slc 3 fr, .slc 4 (linesD d.ls), .slc 1 (d.ns.map I64)], I64 4]) (by simp [toDL, PVal.toD, find, hfl2, htf]) r152 (by simp) ?_)|(refine CallK.toD (ds:=[I64 n, .slc 4 (linesD bs)]) rfl (r80) rfl ?_)|refine CallG.off ?_|with_reducible refine Or.inl ?_|simp only [thenS,blockS]|with_reducible refine And.intro ?_ ?_|with_reducible exact True.intro|simp (dsimp:=false) only [↓gq,↓stepP,↓stepG,go_sem,c1,hlb,hbad])
              all_goals (try (first|(intro hg;simp [hg];done)|exact of_decide_eq_true rfl|(cases h;done)))
              all_goals (try (intro hg; simp only [hg, Bool.not_false, Bool.not_true, Bool.and_self, Bool.true_and, Bool.and_true, true_and, and_self, imp_self, implies_true]; done))
              (refine Fin.data (.inr rfl) (by simp (dsimp:=false) only [↓gq,↓stepP,↓stepG,go_sem,resL]; rfl) (by simp only [and_self]) (by simp (dsimp:=false) only [↓gq,↓stepP,↓stepG,go_sem,resP,Nat.le_refl,List.take_length]; try rfl) ?_)
              exact subD_refl _
            | false =>
              rw [if_neg (by simp), e1]
              have hbad2 := hbad
              rw [Bool.or_eq_false_iff, bne_eq_false_iff_eq] at hbad2
              rw [hnv hbad2.1, hbad2.1] at r80
              rw [hbad2.1] at hbad
              generalize sentsD A4 = Y at *
              have hbad3 := hbad2.2
              generalize (outs n bs).map I64 = nv at *
              unfold chD
              unfold L149 boxV
              repeat' (first|((first|refine goA rfl fun K hK=>?_|refine goB rfl fun K hK=>?_|refine goC rfl rfl fun K hK=>?_|refine goD rfl rfl fun K hK=>?_);simp (dsimp:=false) only [↓gq,↓stepP,↓stepG,go_sem,c1,hlb,hbad3])|refine Pwp.seq ?_|refine Pwp.block ?_|(refine Pwp.exit ?_;simp only [thenS,blockS,if_true,if_false,reduceIte,Nat.reduceEqDiff,Nat.add_one_ne_zero,reduceCtorEq])|(refine Pwp.skip ?_;simp only [thenS,blockS])|(refine Pwp.cond rfl True.intro (fun h=>?_) (fun h=>?_)<;>(try (cases h;done))<;>(try simp only [h]))|refine Pwp.ret ?_|(refine hK _ ?_;clear hK K)|(refine hK _ _ rfl ?_;clear hK K)|(refine CallK.give (ds:=[.slc 1 (offersD (ofs'.take n))]) (by simp [toDL, PVal.toD, find, hon, hot]) r85 (by simp) ?_)|(refine CallK.give (ds:=[I64 n, .slc 4 (linesD bs)]) rfl r80 (by simp) ?_)|(refine CallK.give (ds:=[.agg [I64 n, .slc 5 (runsC n rs)], I64 m.cycle, .agg [I64 d.cur, I64 2, .slc 3 fr, .slc 4 (linesD bs), .slc 1 nv]]) (by simp [toDL, PVal.toD, find, hfl2, htf]) rB (by simp) ?_)|(refine CallK.give (ds:=[.agg [I64 n, .slc 5 (runsC n rs)], .agg [I64 12, I64 0, I64 0, I64 0, I64 0, I64 0, I64 m.cycle, I64 0, .v (.bool false), .slc 4 (linesD bs), .slc 1 nv]]) rfl r204 (by simp) ?_)|refine CallG.off ?_|with_reducible refine Or.inl ?_|simp only [thenS,blockS]|with_reducible refine And.intro ?_ ?_|with_reducible exact True.intro|simp (dsimp:=false) only [↓gq,↓stepP,↓stepG,go_sem,c1,hlb,hbad3])
              all_goals (try (first|(intro hg;simp [hg];done)|exact of_decide_eq_true rfl|(cases h;done)))
              all_goals (try (intro hg; simp only [hg, Bool.not_false, Bool.not_true, Bool.and_self, Bool.true_and, Bool.and_true, true_and, and_self, imp_self, implies_true]; done))
              (refine Fin.data (.inr rfl) (by simp (dsimp:=false) only [↓gq,↓stepP,↓stepG,go_sem,resL]; rfl) (by simp only [and_self]) (by simp (dsimp:=false) only [↓gq,↓stepP,↓stepG,go_sem,resP,Nat.le_refl,List.take_length]; try rfl) ?_)
              exact subD_refl _
end Go.Proofs.Ytdodgbhodkcckaa.Pv
end
section
set_option linter.unusedVariables false
set_option linter.unusedSimpArgs false
set_option autoImplicit false
set_option maxRecDepth 100000
namespace Go.Proofs.Ytdodgbhodkcckaa.Pv
open Go Go.RowKit
theorem open_lt {n : Nat} {d : DRun} (h : RunOK n d) : openR d = decide (d.st < 3) := by
  have := h.st
  unfold openR
  rw [Bool.eq_iff_iff]
  simp only [Bool.or_eq_true, beq_iff_eq, decide_eq_true_eq]
  omega
set_option maxHeartbeats 16000000 in
theorem run91o (n : Nat) (rs : List DRun) (m : VMsg) (f : Int) (hn : n ≤ 8) (hr : RunsOK n rs) (hl : rs.length ≤ 10000) (hml : m.ls.length ≤ 100) (h1 : (m.kind == 5) = false) (h2 : (m.kind == 16) = false) (h3 : (m.kind == 11) = false) (h4 : (m.kind == 13) = false) (h5 : (m.kind == 15) = false) : Runs Try.prog 91 [.d (chD n rs), .d m.msg.d, pint .i64 f] [] (.d (cOutD n (chiefR n rs m f))) [] := by
  have e1 : ∀ r : DOut, cOutD n r = .tup [chD n r.rs, .slc 12 (sentsD r.o), I64 r.e] := fun _ => rfl
  have hb : kindBad m f = true := by unfold kindBad clientV nodeV; simp [h1, h2, h3, h4, h5]
  unfold chiefR
  rw [if_pos hb, e1]
  have n3 : (m.kind != 11) = true := by simp only [bne, h3, Bool.not_false]
  have n4 : (m.kind != 13) = true := by simp only [bne, h4, Bool.not_false]
  have n5 : (m.kind != 15) = true := by simp only [bne, h5, Bool.not_false]
  unfold chD VMsg.msg Msg.d Msg.cells
  refine Runs.of (kit Try.prog) Try.func91 rfl rfl (by rw [Try.ntmps91]; exact of_decide_eq_true rfl) ?_; rw [Try.ntmps91, Try.results91]
  repeat' (first|((first|refine goA rfl fun K hK=>?_|refine goB rfl fun K hK=>?_|refine goC rfl rfl fun K hK=>?_|refine goD rfl rfl fun K hK=>?_);simp (dsimp:=false) only [↓gq,↓stepP,↓stepG,go_sem,h1,h2,n3,n4,n5])|refine Pwp.seq ?_|refine Pwp.block ?_|(refine Pwp.exit ?_;simp only [thenS,blockS,if_true,if_false,reduceIte,Nat.reduceEqDiff,Nat.add_one_ne_zero,reduceCtorEq])|(refine Pwp.skip ?_;simp only [thenS,blockS])|(refine Pwp.cond rfl True.intro (fun h=>?_) (fun h=>?_)<;>(try (cases h;done))<;>(try simp only [h]))|refine Pwp.ret ?_|(refine hK _ ?_;clear hK K)|(refine hK _ _ rfl ?_;clear hK K)|refine CallG.off ?_|with_reducible refine Or.inl ?_|simp only [thenS,blockS]|with_reducible refine And.intro ?_ ?_|with_reducible exact True.intro|simp (dsimp:=false) only [↓gq,↓stepP,↓stepG,go_sem,h1,h2,n3,n4,n5])
  all_goals (try (first|(intro hg;simp [hg];done)|exact of_decide_eq_true rfl|(cases h;done)))
  all_goals (try (intro hg; simp only [hg, Bool.not_false, Bool.not_true, Bool.and_self, Bool.true_and, Bool.and_true, true_and, and_self, imp_self, implies_true]; done))
  (refine Fin.data (.inr rfl) (by simp (dsimp:=false) only [↓gq,↓stepP,↓stepG,go_sem,resL]; rfl) (by simp only [and_self]) (by simp (dsimp:=false) only [↓gq,↓stepP,↓stepG,go_sem,resP,Nat.le_refl,List.take_length]; try rfl) ?_)
  simp [sentsD]
set_option maxHeartbeats 16000000 in
theorem run91w5 (n : Nat) (rs : List DRun) (m : VMsg) (f : Int) (hn : n ≤ 8) (hr : RunsOK n rs) (hl : rs.length ≤ 10000) (hml : m.ls.length ≤ 100) (hk : m.kind = 5) (hf : (f == -1) = false) : Runs Try.prog 91 [.d (chD n rs), .d m.msg.d, pint .i64 f] [] (.d (cOutD n (chiefR n rs m f))) [] := by
  have e1 : ∀ r : DOut, cOutD n r = .tup [chD n r.rs, .slc 12 (sentsD r.o), I64 r.e] := fun _ => rfl
  have hb : kindBad m f = true := by unfold kindBad clientV nodeV; rw [hk, hf]; rfl
  unfold chiefR
  rw [if_pos hb, e1]
  unfold chD VMsg.msg Msg.d Msg.cells
  refine Runs.of (kit Try.prog) Try.func91 rfl rfl (by rw [Try.ntmps91]; exact of_decide_eq_true rfl) ?_; rw [Try.ntmps91, Try.results91]
  repeat' (first|((first|refine goA rfl fun K hK=>?_|refine goB rfl fun K hK=>?_|refine goC rfl rfl fun K hK=>?_|refine goD rfl rfl fun K hK=>?_);simp (dsimp:=false) only [↓gq,↓stepP,↓stepG,go_sem,hk,hf])|refine Pwp.seq ?_|refine Pwp.block ?_|(refine Pwp.exit ?_;simp only [thenS,blockS,if_true,if_false,reduceIte,Nat.reduceEqDiff,Nat.add_one_ne_zero,reduceCtorEq])|(refine Pwp.skip ?_;simp only [thenS,blockS])|(refine Pwp.cond rfl True.intro (fun h=>?_) (fun h=>?_)<;>(try (cases h;done))<;>(try simp only [h]))|refine Pwp.ret ?_|(refine hK _ ?_;clear hK K)|(refine hK _ _ rfl ?_;clear hK K)|refine CallG.off ?_|with_reducible refine Or.inl ?_|simp only [thenS,blockS]|with_reducible refine And.intro ?_ ?_|with_reducible exact True.intro|simp (dsimp:=false) only [↓gq,↓stepP,↓stepG,go_sem,hk,hf])
  all_goals (try (first|(intro hg;simp [hg];done)|exact of_decide_eq_true rfl|(cases h;done)))
  all_goals (try (intro hg; simp only [hg, Bool.not_false, Bool.not_true, Bool.and_self, Bool.true_and, Bool.and_true, true_and, and_self, imp_self, implies_true]; done))
  (refine Fin.data (.inr rfl) (by simp (dsimp:=false) only [↓gq,↓stepP,↓stepG,go_sem,resL]; rfl) (by simp only [and_self]) (by simp (dsimp:=false) only [↓gq,↓stepP,↓stepG,go_sem,resP,Nat.le_refl,List.take_length]; try rfl) ?_)
  simp [sentsD]
set_option maxHeartbeats 16000000 in
theorem run91w16 (n : Nat) (rs : List DRun) (m : VMsg) (f : Int) (hn : n ≤ 8) (hr : RunsOK n rs) (hl : rs.length ≤ 10000) (hml : m.ls.length ≤ 100) (hk : m.kind = 16) (hf : (f == -1) = false) : Runs Try.prog 91 [.d (chD n rs), .d m.msg.d, pint .i64 f] [] (.d (cOutD n (chiefR n rs m f))) [] := by
  have e1 : ∀ r : DOut, cOutD n r = .tup [chD n r.rs, .slc 12 (sentsD r.o), I64 r.e] := fun _ => rfl
  have hb : kindBad m f = true := by unfold kindBad clientV nodeV; rw [hk, hf]; rfl
  unfold chiefR
  rw [if_pos hb, e1]
  unfold chD VMsg.msg Msg.d Msg.cells
  refine Runs.of (kit Try.prog) Try.func91 rfl rfl (by rw [Try.ntmps91]; exact of_decide_eq_true rfl) ?_; rw [Try.ntmps91, Try.results91]
  repeat' (first|((first|refine goA rfl fun K hK=>?_|refine goB rfl fun K hK=>?_|refine goC rfl rfl fun K hK=>?_|refine goD rfl rfl fun K hK=>?_);simp (dsimp:=false) only [↓gq,↓stepP,↓stepG,go_sem,hk,hf])|refine Pwp.seq ?_|refine Pwp.block ?_|(refine Pwp.exit ?_;simp only [thenS,blockS,if_true,if_false,reduceIte,Nat.reduceEqDiff,Nat.add_one_ne_zero,reduceCtorEq])|(refine Pwp.skip ?_;simp only [thenS,blockS])|(refine Pwp.cond rfl True.intro (fun h=>?_) (fun h=>?_)<;>(try (cases h;done))<;>(try simp only [h]))|refine Pwp.ret ?_|(refine hK _ ?_;clear hK K)|(refine hK _ _ rfl ?_;clear hK K)|refine CallG.off ?_|with_reducible refine Or.inl ?_|simp only [thenS,blockS]|with_reducible refine And.intro ?_ ?_|with_reducible exact True.intro|simp (dsimp:=false) only [↓gq,↓stepP,↓stepG,go_sem,hk,hf])
  all_goals (try (first|(intro hg;simp [hg];done)|exact of_decide_eq_true rfl|(cases h;done)))
  all_goals (try (intro hg; simp only [hg, Bool.not_false, Bool.not_true, Bool.and_self, Bool.true_and, Bool.and_true, true_and, and_self, imp_self, implies_true]; done))
  (refine Fin.data (.inr rfl) (by simp (dsimp:=false) only [↓gq,↓stepP,↓stepG,go_sem,resL]; rfl) (by simp only [and_self]) (by simp (dsimp:=false) only [↓gq,↓stepP,↓stepG,go_sem,resP,Nat.le_refl,List.take_length]; try rfl) ?_)
  simp [sentsD]
set_option maxHeartbeats 16000000 in
theorem run91w11 (n : Nat) (rs : List DRun) (m : VMsg) (f : Int) (hn : n ≤ 8) (hr : RunsOK n rs) (hl : rs.length ≤ 10000) (hml : m.ls.length ≤ 100) (hk : m.kind = 11) (hf : (f == -1) = true) : Runs Try.prog 91 [.d (chD n rs), .d m.msg.d, pint .i64 f] [] (.d (cOutD n (chiefR n rs m f))) [] := by
  have e1 : ∀ r : DOut, cOutD n r = .tup [chD n r.rs, .slc 12 (sentsD r.o), I64 r.e] := fun _ => rfl
  have hb : kindBad m f = true := by unfold kindBad clientV nodeV; rw [hk, hf]; rfl
  unfold chiefR
  rw [if_pos hb, e1]
  unfold chD VMsg.msg Msg.d Msg.cells
  refine Runs.of (kit Try.prog) Try.func91 rfl rfl (by rw [Try.ntmps91]; exact of_decide_eq_true rfl) ?_; rw [Try.ntmps91, Try.results91]
  repeat' (first|((first|refine goA rfl fun K hK=>?_|refine goB rfl fun K hK=>?_|refine goC rfl rfl fun K hK=>?_|refine goD rfl rfl fun K hK=>?_);simp (dsimp:=false) only [↓gq,↓stepP,↓stepG,go_sem,hk,hf])|refine Pwp.seq ?_|refine Pwp.block ?_|(refine Pwp.exit ?_;simp only [thenS,blockS,if_true,if_false,reduceIte,Nat.reduceEqDiff,Nat.add_one_ne_zero,reduceCtorEq])|(refine Pwp.skip ?_;simp only [thenS,blockS])|(refine Pwp.cond rfl True.intro (fun h=>?_) (fun h=>?_)<;>(try (cases h;done))<;>(try simp only [h]))|refine Pwp.ret ?_|(refine hK _ ?_;clear hK K)|(refine hK _ _ rfl ?_;clear hK K)|refine CallG.off ?_|with_reducible refine Or.inl ?_|simp only [thenS,blockS]|with_reducible refine And.intro ?_ ?_|with_reducible exact True.intro|simp (dsimp:=false) only [↓gq,↓stepP,↓stepG,go_sem,hk,hf])
  all_goals (try (first|(intro hg;simp [hg];done)|exact of_decide_eq_true rfl|(cases h;done)))
  all_goals (try (intro hg; simp only [hg, Bool.not_false, Bool.not_true, Bool.and_self, Bool.true_and, Bool.and_true, true_and, and_self, imp_self, implies_true]; done))
  (refine Fin.data (.inr rfl) (by simp (dsimp:=false) only [↓gq,↓stepP,↓stepG,go_sem,resL]; rfl) (by simp only [and_self]) (by simp (dsimp:=false) only [↓gq,↓stepP,↓stepG,go_sem,resP,Nat.le_refl,List.take_length]; try rfl) ?_)
  simp [sentsD]
set_option maxHeartbeats 16000000 in
theorem run91w13 (n : Nat) (rs : List DRun) (m : VMsg) (f : Int) (hn : n ≤ 8) (hr : RunsOK n rs) (hl : rs.length ≤ 10000) (hml : m.ls.length ≤ 100) (hk : m.kind = 13) (hf : (f == -1) = true) : Runs Try.prog 91 [.d (chD n rs), .d m.msg.d, pint .i64 f] [] (.d (cOutD n (chiefR n rs m f))) [] := by
  have e1 : ∀ r : DOut, cOutD n r = .tup [chD n r.rs, .slc 12 (sentsD r.o), I64 r.e] := fun _ => rfl
  have hb : kindBad m f = true := by unfold kindBad clientV nodeV; rw [hk, hf]; rfl
  unfold chiefR
  rw [if_pos hb, e1]
  unfold chD VMsg.msg Msg.d Msg.cells
  refine Runs.of (kit Try.prog) Try.func91 rfl rfl (by rw [Try.ntmps91]; exact of_decide_eq_true rfl) ?_; rw [Try.ntmps91, Try.results91]
  repeat' (first|((first|refine goA rfl fun K hK=>?_|refine goB rfl fun K hK=>?_|refine goC rfl rfl fun K hK=>?_|refine goD rfl rfl fun K hK=>?_);simp (dsimp:=false) only [↓gq,↓stepP,↓stepG,go_sem,hk,hf])|refine Pwp.seq ?_|refine Pwp.block ?_|(refine Pwp.exit ?_;simp only [thenS,blockS,if_true,if_false,reduceIte,Nat.reduceEqDiff,Nat.add_one_ne_zero,reduceCtorEq])|(refine Pwp.skip ?_;simp only [thenS,blockS])|(refine Pwp.cond rfl True.intro (fun h=>?_) (fun h=>?_)<;>(try (cases h;done))<;>(try simp only [h]))|refine Pwp.ret ?_|(refine hK _ ?_;clear hK K)|(refine hK _ _ rfl ?_;clear hK K)|refine CallG.off ?_|with_reducible refine Or.inl ?_|simp only [thenS,blockS]|with_reducible refine And.intro ?_ ?_|with_reducible exact True.intro|simp (dsimp:=false) only [↓gq,↓stepP,↓stepG,go_sem,hk,hf])
  all_goals (try (first|(intro hg;simp [hg];done)|exact of_decide_eq_true rfl|(cases h;done)))
  all_goals (try (intro hg; simp only [hg, Bool.not_false, Bool.not_true, Bool.and_self, Bool.true_and, Bool.and_true, true_and, and_self, imp_self, implies_true]; done))
  (refine Fin.data (.inr rfl) (by simp (dsimp:=false) only [↓gq,↓stepP,↓stepG,go_sem,resL]; rfl) (by simp only [and_self]) (by simp (dsimp:=false) only [↓gq,↓stepP,↓stepG,go_sem,resP,Nat.le_refl,List.take_length]; try rfl) ?_)
  simp [sentsD]
set_option maxHeartbeats 16000000 in
theorem run91w15 (n : Nat) (rs : List DRun) (m : VMsg) (f : Int) (hn : n ≤ 8) (hr : RunsOK n rs) (hl : rs.length ≤ 10000) (hml : m.ls.length ≤ 100) (hk : m.kind = 15) (hf : (f == -1) = true) : Runs Try.prog 91 [.d (chD n rs), .d m.msg.d, pint .i64 f] [] (.d (cOutD n (chiefR n rs m f))) [] := by
  have e1 : ∀ r : DOut, cOutD n r = .tup [chD n r.rs, .slc 12 (sentsD r.o), I64 r.e] := fun _ => rfl
  have hb : kindBad m f = true := by unfold kindBad clientV nodeV; rw [hk, hf]; rfl
  unfold chiefR
  rw [if_pos hb, e1]
  unfold chD VMsg.msg Msg.d Msg.cells
  refine Runs.of (kit Try.prog) Try.func91 rfl rfl (by rw [Try.ntmps91]; exact of_decide_eq_true rfl) ?_; rw [Try.ntmps91, Try.results91]
  repeat' (first|((first|refine goA rfl fun K hK=>?_|refine goB rfl fun K hK=>?_|refine goC rfl rfl fun K hK=>?_|refine goD rfl rfl fun K hK=>?_);simp (dsimp:=false) only [↓gq,↓stepP,↓stepG,go_sem,hk,hf])|refine Pwp.seq ?_|refine Pwp.block ?_|(refine Pwp.exit ?_;simp only [thenS,blockS,if_true,if_false,reduceIte,Nat.reduceEqDiff,Nat.add_one_ne_zero,reduceCtorEq])|(refine Pwp.skip ?_;simp only [thenS,blockS])|(refine Pwp.cond rfl True.intro (fun h=>?_) (fun h=>?_)<;>(try (cases h;done))<;>(try simp only [h]))|refine Pwp.ret ?_|(refine hK _ ?_;clear hK K)|(refine hK _ _ rfl ?_;clear hK K)|refine CallG.off ?_|with_reducible refine Or.inl ?_|simp only [thenS,blockS]|with_reducible refine And.intro ?_ ?_|with_reducible exact True.intro|simp (dsimp:=false) only [↓gq,↓stepP,↓stepG,go_sem,hk,hf])
  all_goals (try (first|(intro hg;simp [hg];done)|exact of_decide_eq_true rfl|(cases h;done)))
  all_goals (try (intro hg; simp only [hg, Bool.not_false, Bool.not_true, Bool.and_self, Bool.true_and, Bool.and_true, true_and, and_self, imp_self, implies_true]; done))
  (refine Fin.data (.inr rfl) (by simp (dsimp:=false) only [↓gq,↓stepP,↓stepG,go_sem,resL]; rfl) (by simp only [and_self]) (by simp (dsimp:=false) only [↓gq,↓stepP,↓stepG,go_sem,resP,Nat.le_refl,List.take_length]; try rfl) ?_)
  simp [sentsD]
set_option maxHeartbeats 16000000 in
theorem run91s (n : Nat) (rs : List DRun) (m : VMsg) (f : Int) (hn : n ≤ 8) (hr : RunsOK n rs) (hl : rs.length ≤ 10000) (hml : m.ls.length ≤ 100) (hk : m.kind = 5) (hf : (f == -1) = true) : Runs Try.prog 91 [.d (chD n rs), .d m.msg.d, pint .i64 f] [] (.d (cOutD n (chiefR n rs m f))) [] := by
  have e1 : ∀ r : DOut, cOutD n r = .tup [chD n r.rs, .slc 12 (sentsD r.o), I64 r.e] := fun _ => rfl
  have hb : kindBad m f = false := by unfold kindBad clientV nodeV; rw [hk, hf]; rfl
  have h5 : (m.kind == 5) = true := by rw [hk]; rfl
  have r148 := run148 n rs m hn hr hl
  unfold chiefR
  rw [if_neg (by rw [hb]; simp), if_pos h5]
  rw [e1] at r148 ⊢
  generalize cStart n rs m.currency = R at *
  unfold chD VMsg.msg Msg.d Msg.cells at *
  rw [hk] at r148
  refine Runs.of (kit Try.prog) Try.func91 rfl rfl (by rw [Try.ntmps91]; exact of_decide_eq_true rfl) ?_; rw [Try.ntmps91, Try.results91]
  repeat' (first|((first|refine goA rfl fun K hK=>?_|refine goB rfl fun K hK=>?_|refine goC rfl rfl fun K hK=>?_|refine goD rfl rfl fun K hK=>?_);simp (dsimp:=false) only [↓gq,↓stepP,↓stepG,go_sem,hk,hf])|refine Pwp.seq ?_|refine Pwp.block ?_|(refine Pwp.exit ?_;simp only [thenS,blockS,if_true,if_false,reduceIte,Nat.reduceEqDiff,Nat.add_one_ne_zero,reduceCtorEq])|(refine Pwp.skip ?_;simp only [thenS,blockS])|(refine Pwp.cond rfl True.intro (fun h=>?_) (fun h=>?_)<;>(try (cases h;done))<;>(try simp only [h]))|refine Pwp.ret ?_|(refine hK _ ?_;clear hK K)|(refine hK _ _ rfl ?_;clear hK K)|(refine CallK.give (ds:=[.agg [I64 n, .slc 5 (runsC n rs)], .agg [I64 5, I64 m.seller, I64 m.number, I64 m.buyer, I64 m.currency, I64 m.round, I64 m.cycle, I64 m.amount, .v (.bool m.yes), .slc 4 (linesD m.ls), .slc 1 (m.ns.map I64)]]) rfl (r148) (by simp) ?_)|refine CallG.off ?_|with_reducible refine Or.inl ?_|simp only [thenS,blockS]|with_reducible refine And.intro ?_ ?_|with_reducible exact True.intro|simp (dsimp:=false) only [↓gq,↓stepP,↓stepG,go_sem,hk,hf])
  all_goals (try (first|(intro hg;simp [hg];done)|exact of_decide_eq_true rfl|(cases h;done)))
  all_goals (try (intro hg; simp only [hg, Bool.not_false, Bool.not_true, Bool.and_self, Bool.true_and, Bool.and_true, true_and, and_self, imp_self, implies_true]; done))
  (refine Fin.data (.inr rfl) (by simp (dsimp:=false) only [↓gq,↓stepP,↓stepG,go_sem,resL]; rfl) (by simp only [and_self]) (by simp (dsimp:=false) only [↓gq,↓stepP,↓stepG,go_sem,resP,Nat.le_refl,List.take_length]; try rfl) ?_)
  exact subD_refl _
set_option maxHeartbeats 16000000 in
theorem run91n11 (n : Nat) (rs : List DRun) (m : VMsg) (f : Int) (hn : n ≤ 8) (hr : RunsOK n rs) (hl : rs.length ≤ 10000) (hml : m.ls.length ≤ 100) (hk : m.kind = 11) (hf : (f == -1) = false) (hr2 : (decide (f < 0) || decide ((n : Int) ≤ f)) = true) : Runs Try.prog 91 [.d (chD n rs), .d m.msg.d, pint .i64 f] [] (.d (cOutD n (chiefR n rs m f))) [] := by
  have e1 : ∀ r : DOut, cOutD n r = .tup [chD n r.rs, .slc 12 (sentsD r.o), I64 r.e] := fun _ => rfl
  have hb : kindBad m f = false := by unfold kindBad clientV nodeV; rw [hk, hf]; rfl
  have h5 : ¬ (m.kind == 5) = true := by rw [hk]; decide
  have hnv : (nodeV m && (decide (f < 0) || decide ((n : Int) ≤ f))) = true := by rw [hr2]; unfold nodeV; rw [hk]; rfl
  unfold chiefR
  rw [if_neg (by rw [hb]; simp), if_neg h5, if_pos hnv, e1]
  unfold chD VMsg.msg Msg.d Msg.cells
  refine Runs.of (kit Try.prog) Try.func91 rfl rfl (by rw [Try.ntmps91]; exact of_decide_eq_true rfl) ?_; rw [Try.ntmps91, Try.results91]
  repeat' (first|((first|refine goA rfl fun K hK=>?_|refine goB rfl fun K hK=>?_|refine goC rfl rfl fun K hK=>?_|refine goD rfl rfl fun K hK=>?_);simp (dsimp:=false) only [↓gq,↓stepP,↓stepG,go_sem,hk,hf,hr2])|refine Pwp.seq ?_|refine Pwp.block ?_|(refine Pwp.exit ?_;simp only [thenS,blockS,if_true,if_false,reduceIte,Nat.reduceEqDiff,Nat.add_one_ne_zero,reduceCtorEq])|(refine Pwp.skip ?_;simp only [thenS,blockS])|(refine Pwp.cond rfl True.intro (fun h=>?_) (fun h=>?_)<;>(try (cases h;done))<;>(try simp only [h]))|refine Pwp.ret ?_|(refine hK _ ?_;clear hK K)|(refine hK _ _ rfl ?_;clear hK K)|refine CallG.off ?_|with_reducible refine Or.inl ?_|simp only [thenS,blockS]|with_reducible refine And.intro ?_ ?_|with_reducible exact True.intro|simp (dsimp:=false) only [↓gq,↓stepP,↓stepG,go_sem,hk,hf,hr2])
  all_goals (try (first|(intro hg;simp [hg];done)|exact of_decide_eq_true rfl|(cases h;done)))
  all_goals (try (intro hg; simp only [hg, Bool.not_false, Bool.not_true, Bool.and_self, Bool.true_and, Bool.and_true, true_and, and_self, imp_self, implies_true]; done))
  (refine Fin.data (.inr rfl) (by simp (dsimp:=false) only [↓gq,↓stepP,↓stepG,go_sem,resL]; rfl) (by simp only [and_self]) (by simp (dsimp:=false) only [↓gq,↓stepP,↓stepG,go_sem,resP,Nat.le_refl,List.take_length]; try rfl) ?_)
  simp [sentsD]
set_option maxHeartbeats 16000000 in
theorem run91n13 (n : Nat) (rs : List DRun) (m : VMsg) (f : Int) (hn : n ≤ 8) (hr : RunsOK n rs) (hl : rs.length ≤ 10000) (hml : m.ls.length ≤ 100) (hk : m.kind = 13) (hf : (f == -1) = false) (hr2 : (decide (f < 0) || decide ((n : Int) ≤ f)) = true) : Runs Try.prog 91 [.d (chD n rs), .d m.msg.d, pint .i64 f] [] (.d (cOutD n (chiefR n rs m f))) [] := by
  have e1 : ∀ r : DOut, cOutD n r = .tup [chD n r.rs, .slc 12 (sentsD r.o), I64 r.e] := fun _ => rfl
  have hb : kindBad m f = false := by unfold kindBad clientV nodeV; rw [hk, hf]; rfl
  have h5 : ¬ (m.kind == 5) = true := by rw [hk]; decide
  have hnv : (nodeV m && (decide (f < 0) || decide ((n : Int) ≤ f))) = true := by rw [hr2]; unfold nodeV; rw [hk]; rfl
  unfold chiefR
  rw [if_neg (by rw [hb]; simp), if_neg h5, if_pos hnv, e1]
  unfold chD VMsg.msg Msg.d Msg.cells
  refine Runs.of (kit Try.prog) Try.func91 rfl rfl (by rw [Try.ntmps91]; exact of_decide_eq_true rfl) ?_; rw [Try.ntmps91, Try.results91]
  repeat' (first|((first|refine goA rfl fun K hK=>?_|refine goB rfl fun K hK=>?_|refine goC rfl rfl fun K hK=>?_|refine goD rfl rfl fun K hK=>?_);simp (dsimp:=false) only [↓gq,↓stepP,↓stepG,go_sem,hk,hf,hr2])|refine Pwp.seq ?_|refine Pwp.block ?_|(refine Pwp.exit ?_;simp only [thenS,blockS,if_true,if_false,reduceIte,Nat.reduceEqDiff,Nat.add_one_ne_zero,reduceCtorEq])|(refine Pwp.skip ?_;simp only [thenS,blockS])|(refine Pwp.cond rfl True.intro (fun h=>?_) (fun h=>?_)<;>(try (cases h;done))<;>(try simp only [h]))|refine Pwp.ret ?_|(refine hK _ ?_;clear hK K)|(refine hK _ _ rfl ?_;clear hK K)|refine CallG.off ?_|with_reducible refine Or.inl ?_|simp only [thenS,blockS]|with_reducible refine And.intro ?_ ?_|with_reducible exact True.intro|simp (dsimp:=false) only [↓gq,↓stepP,↓stepG,go_sem,hk,hf,hr2])
  all_goals (try (first|(intro hg;simp [hg];done)|exact of_decide_eq_true rfl|(cases h;done)))
  all_goals (try (intro hg; simp only [hg, Bool.not_false, Bool.not_true, Bool.and_self, Bool.true_and, Bool.and_true, true_and, and_self, imp_self, implies_true]; done))
  (refine Fin.data (.inr rfl) (by simp (dsimp:=false) only [↓gq,↓stepP,↓stepG,go_sem,resL]; rfl) (by simp only [and_self]) (by simp (dsimp:=false) only [↓gq,↓stepP,↓stepG,go_sem,resP,Nat.le_refl,List.take_length]; try rfl) ?_)
  simp [sentsD]
set_option maxHeartbeats 16000000 in
theorem run91n15 (n : Nat) (rs : List DRun) (m : VMsg) (f : Int) (hn : n ≤ 8) (hr : RunsOK n rs) (hl : rs.length ≤ 10000) (hml : m.ls.length ≤ 100) (hk : m.kind = 15) (hf : (f == -1) = false) (hr2 : (decide (f < 0) || decide ((n : Int) ≤ f)) = true) : Runs Try.prog 91 [.d (chD n rs), .d m.msg.d, pint .i64 f] [] (.d (cOutD n (chiefR n rs m f))) [] := by
  have e1 : ∀ r : DOut, cOutD n r = .tup [chD n r.rs, .slc 12 (sentsD r.o), I64 r.e] := fun _ => rfl
  have hb : kindBad m f = false := by unfold kindBad clientV nodeV; rw [hk, hf]; rfl
  have h5 : ¬ (m.kind == 5) = true := by rw [hk]; decide
  have hnv : (nodeV m && (decide (f < 0) || decide ((n : Int) ≤ f))) = true := by rw [hr2]; unfold nodeV; rw [hk]; rfl
  unfold chiefR
  rw [if_neg (by rw [hb]; simp), if_neg h5, if_pos hnv, e1]
  unfold chD VMsg.msg Msg.d Msg.cells
  refine Runs.of (kit Try.prog) Try.func91 rfl rfl (by rw [Try.ntmps91]; exact of_decide_eq_true rfl) ?_; rw [Try.ntmps91, Try.results91]
  repeat' (first|((first|refine goA rfl fun K hK=>?_|refine goB rfl fun K hK=>?_|refine goC rfl rfl fun K hK=>?_|refine goD rfl rfl fun K hK=>?_);simp (dsimp:=false) only [↓gq,↓stepP,↓stepG,go_sem,hk,hf,hr2])|refine Pwp.seq ?_|refine Pwp.block ?_|(refine Pwp.exit ?_;simp only [thenS,blockS,if_true,if_false,reduceIte,Nat.reduceEqDiff,Nat.add_one_ne_zero,reduceCtorEq])|(refine Pwp.skip ?_;simp only [thenS,blockS])|(refine Pwp.cond rfl True.intro (fun h=>?_) (fun h=>?_)<;>(try (cases h;done))<;>(try simp only [h]))|refine Pwp.ret ?_|(refine hK _ ?_;clear hK K)|(refine hK _ _ rfl ?_;clear hK K)|refine CallG.off ?_|with_reducible refine Or.inl ?_|simp only [thenS,blockS]|with_reducible refine And.intro ?_ ?_|with_reducible exact True.intro|simp (dsimp:=false) only [↓gq,↓stepP,↓stepG,go_sem,hk,hf,hr2])
  all_goals (try (first|(intro hg;simp [hg];done)|exact of_decide_eq_true rfl|(cases h;done)))
  all_goals (try (intro hg; simp only [hg, Bool.not_false, Bool.not_true, Bool.and_self, Bool.true_and, Bool.and_true, true_and, and_self, imp_self, implies_true]; done))
  (refine Fin.data (.inr rfl) (by simp (dsimp:=false) only [↓gq,↓stepP,↓stepG,go_sem,resL]; rfl) (by simp only [and_self]) (by simp (dsimp:=false) only [↓gq,↓stepP,↓stepG,go_sem,resP,Nat.le_refl,List.take_length]; try rfl) ?_)
  simp [sentsD]
set_option maxHeartbeats 16000000 in
theorem run91m16 (n : Nat) (rs : List DRun) (m : VMsg) (f : Int) (hn : n ≤ 8) (hr : RunsOK n rs) (hl : rs.length ≤ 10000) (hml : m.ls.length ≤ 100) (hk : m.kind = 16) (hf : (f == -1) = true) (hc : (decide (m.cycle < 1) || decide ((rs.length : Int) < m.cycle)) = true) : Runs Try.prog 91 [.d (chD n rs), .d m.msg.d, pint .i64 f] [] (.d (cOutD n (chiefR n rs m f))) [] := by
  have e1 : ∀ r : DOut, cOutD n r = .tup [chD n r.rs, .slc 12 (sentsD r.o), I64 r.e] := fun _ => rfl
  have hb : kindBad m f = false := by unfold kindBad clientV nodeV; rw [hk, hf]; rfl
  have h5 : ¬ (m.kind == 5) = true := by rw [hk]; decide
  have hnv : ¬ (nodeV m && (decide (f < 0) || decide ((n : Int) ≤ f))) = true := by unfold nodeV; rw [hk]; simp
  have r94 := run94n n rs m.cycle hc
  unfold chiefR
  rw [if_neg (by rw [hb]; simp), if_neg h5, if_neg hnv, if_pos hc, e1]
  unfold chD VMsg.msg Msg.d Msg.cells at *
  refine Runs.of (kit Try.prog) Try.func91 rfl rfl (by rw [Try.ntmps91]; exact of_decide_eq_true rfl) ?_; rw [Try.ntmps91, Try.results91]
  repeat' (first|((first|refine goA rfl fun K hK=>?_|refine goB rfl fun K hK=>?_|refine goC rfl rfl fun K hK=>?_|refine goD rfl rfl fun K hK=>?_);simp (dsimp:=false) only [↓gq,↓stepP,↓stepG,go_sem,hk,hf])|refine Pwp.seq ?_|refine Pwp.block ?_|(refine Pwp.exit ?_;simp only [thenS,blockS,if_true,if_false,reduceIte,Nat.reduceEqDiff,Nat.add_one_ne_zero,reduceCtorEq])|(refine Pwp.skip ?_;simp only [thenS,blockS])|(refine Pwp.cond rfl True.intro (fun h=>?_) (fun h=>?_)<;>(try (cases h;done))<;>(try simp only [h]))|refine Pwp.ret ?_|(refine hK _ ?_;clear hK K)|(refine hK _ _ rfl ?_;clear hK K)|(refine CallK.give (ds:=[.agg [I64 n, .slc 5 (runsC n rs)], I64 m.cycle]) rfl (r94) (by simp) ?_)|refine CallG.off ?_|with_reducible refine Or.inl ?_|simp only [thenS,blockS]|with_reducible refine And.intro ?_ ?_|with_reducible exact True.intro|simp (dsimp:=false) only [↓gq,↓stepP,↓stepG,go_sem,hk,hf])
  all_goals (try (first|(intro hg;simp [hg];done)|exact of_decide_eq_true rfl|(cases h;done)))
  all_goals (try (intro hg; simp only [hg, Bool.not_false, Bool.not_true, Bool.and_self, Bool.true_and, Bool.and_true, true_and, and_self, imp_self, implies_true]; done))
  (refine Fin.data (.inr rfl) (by simp (dsimp:=false) only [↓gq,↓stepP,↓stepG,go_sem,resL]; rfl) (by simp only [and_self]) (by simp (dsimp:=false) only [↓gq,↓stepP,↓stepG,go_sem,resP,Nat.le_refl,List.take_length]; try rfl) ?_)
  simp [sentsD]
set_option maxHeartbeats 16000000 in
theorem run91m11 (n : Nat) (rs : List DRun) (m : VMsg) (f : Int) (hn : n ≤ 8) (hr : RunsOK n rs) (hl : rs.length ≤ 10000) (hml : m.ls.length ≤ 100) (hk : m.kind = 11) (hf : (f == -1) = false) (hr2 : (decide (f < 0) || decide ((n : Int) ≤ f)) = false) (hc : (decide (m.cycle < 1) || decide ((rs.length : Int) < m.cycle)) = true) : Runs Try.prog 91 [.d (chD n rs), .d m.msg.d, pint .i64 f] [] (.d (cOutD n (chiefR n rs m f))) [] := by
  have e1 : ∀ r : DOut, cOutD n r = .tup [chD n r.rs, .slc 12 (sentsD r.o), I64 r.e] := fun _ => rfl
  have hb : kindBad m f = false := by unfold kindBad clientV nodeV; rw [hk, hf]; rfl
  have h5 : ¬ (m.kind == 5) = true := by rw [hk]; decide
  have hnv : ¬ (nodeV m && (decide (f < 0) || decide ((n : Int) ≤ f))) = true := by rw [hr2]; simp
  have r94 := run94n n rs m.cycle hc
  unfold chiefR
  rw [if_neg (by rw [hb]; simp), if_neg h5, if_neg hnv, if_pos hc, e1]
  unfold chD VMsg.msg Msg.d Msg.cells at *
  refine Runs.of (kit Try.prog) Try.func91 rfl rfl (by rw [Try.ntmps91]; exact of_decide_eq_true rfl) ?_; rw [Try.ntmps91, Try.results91]
  repeat' (first|((first|refine goA rfl fun K hK=>?_|refine goB rfl fun K hK=>?_|refine goC rfl rfl fun K hK=>?_|refine goD rfl rfl fun K hK=>?_);simp (dsimp:=false) only [↓gq,↓stepP,↓stepG,go_sem,hk,hf,hr2])|refine Pwp.seq ?_|refine Pwp.block ?_|(refine Pwp.exit ?_;simp only [thenS,blockS,if_true,if_false,reduceIte,Nat.reduceEqDiff,Nat.add_one_ne_zero,reduceCtorEq])|(refine Pwp.skip ?_;simp only [thenS,blockS])|(refine Pwp.cond rfl True.intro (fun h=>?_) (fun h=>?_)<;>(try (cases h;done))<;>(try simp only [h]))|refine Pwp.ret ?_|(refine hK _ ?_;clear hK K)|(refine hK _ _ rfl ?_;clear hK K)|(refine CallK.give (ds:=[.agg [I64 n, .slc 5 (runsC n rs)], I64 m.cycle]) rfl (r94) (by simp) ?_)|refine CallG.off ?_|with_reducible refine Or.inl ?_|simp only [thenS,blockS]|with_reducible refine And.intro ?_ ?_|with_reducible exact True.intro|simp (dsimp:=false) only [↓gq,↓stepP,↓stepG,go_sem,hk,hf,hr2])
  all_goals (try (first|(intro hg;simp [hg];done)|exact of_decide_eq_true rfl|(cases h;done)))
  all_goals (try (intro hg; simp only [hg, Bool.not_false, Bool.not_true, Bool.and_self, Bool.true_and, Bool.and_true, true_and, and_self, imp_self, implies_true]; done))
  (refine Fin.data (.inr rfl) (by simp (dsimp:=false) only [↓gq,↓stepP,↓stepG,go_sem,resL]; rfl) (by simp only [and_self]) (by simp (dsimp:=false) only [↓gq,↓stepP,↓stepG,go_sem,resP,Nat.le_refl,List.take_length]; try rfl) ?_)
  simp [sentsD]
set_option maxHeartbeats 16000000 in
theorem run91m13 (n : Nat) (rs : List DRun) (m : VMsg) (f : Int) (hn : n ≤ 8) (hr : RunsOK n rs) (hl : rs.length ≤ 10000) (hml : m.ls.length ≤ 100) (hk : m.kind = 13) (hf : (f == -1) = false) (hr2 : (decide (f < 0) || decide ((n : Int) ≤ f)) = false) (hc : (decide (m.cycle < 1) || decide ((rs.length : Int) < m.cycle)) = true) : Runs Try.prog 91 [.d (chD n rs), .d m.msg.d, pint .i64 f] [] (.d (cOutD n (chiefR n rs m f))) [] := by
  have e1 : ∀ r : DOut, cOutD n r = .tup [chD n r.rs, .slc 12 (sentsD r.o), I64 r.e] := fun _ => rfl
  have hb : kindBad m f = false := by unfold kindBad clientV nodeV; rw [hk, hf]; rfl
  have h5 : ¬ (m.kind == 5) = true := by rw [hk]; decide
  have hnv : ¬ (nodeV m && (decide (f < 0) || decide ((n : Int) ≤ f))) = true := by rw [hr2]; simp
  have r94 := run94n n rs m.cycle hc
  unfold chiefR
  rw [if_neg (by rw [hb]; simp), if_neg h5, if_neg hnv, if_pos hc, e1]
  unfold chD VMsg.msg Msg.d Msg.cells at *
  refine Runs.of (kit Try.prog) Try.func91 rfl rfl (by rw [Try.ntmps91]; exact of_decide_eq_true rfl) ?_; rw [Try.ntmps91, Try.results91]
  repeat' (first|((first|refine goA rfl fun K hK=>?_|refine goB rfl fun K hK=>?_|refine goC rfl rfl fun K hK=>?_|refine goD rfl rfl fun K hK=>?_);simp (dsimp:=false) only [↓gq,↓stepP,↓stepG,go_sem,hk,hf,hr2])|refine Pwp.seq ?_|refine Pwp.block ?_|(refine Pwp.exit ?_;simp only [thenS,blockS,if_true,if_false,reduceIte,Nat.reduceEqDiff,Nat.add_one_ne_zero,reduceCtorEq])|(refine Pwp.skip ?_;simp only [thenS,blockS])|(refine Pwp.cond rfl True.intro (fun h=>?_) (fun h=>?_)<;>(try (cases h;done))<;>(try simp only [h]))|refine Pwp.ret ?_|(refine hK _ ?_;clear hK K)|(refine hK _ _ rfl ?_;clear hK K)|(refine CallK.give (ds:=[.agg [I64 n, .slc 5 (runsC n rs)], I64 m.cycle]) rfl (r94) (by simp) ?_)|refine CallG.off ?_|with_reducible refine Or.inl ?_|simp only [thenS,blockS]|with_reducible refine And.intro ?_ ?_|with_reducible exact True.intro|simp (dsimp:=false) only [↓gq,↓stepP,↓stepG,go_sem,hk,hf,hr2])
  all_goals (try (first|(intro hg;simp [hg];done)|exact of_decide_eq_true rfl|(cases h;done)))
  all_goals (try (intro hg; simp only [hg, Bool.not_false, Bool.not_true, Bool.and_self, Bool.true_and, Bool.and_true, true_and, and_self, imp_self, implies_true]; done))
  (refine Fin.data (.inr rfl) (by simp (dsimp:=false) only [↓gq,↓stepP,↓stepG,go_sem,resL]; rfl) (by simp only [and_self]) (by simp (dsimp:=false) only [↓gq,↓stepP,↓stepG,go_sem,resP,Nat.le_refl,List.take_length]; try rfl) ?_)
  simp [sentsD]
set_option maxHeartbeats 16000000 in
theorem run91m15 (n : Nat) (rs : List DRun) (m : VMsg) (f : Int) (hn : n ≤ 8) (hr : RunsOK n rs) (hl : rs.length ≤ 10000) (hml : m.ls.length ≤ 100) (hk : m.kind = 15) (hf : (f == -1) = false) (hr2 : (decide (f < 0) || decide ((n : Int) ≤ f)) = false) (hc : (decide (m.cycle < 1) || decide ((rs.length : Int) < m.cycle)) = true) : Runs Try.prog 91 [.d (chD n rs), .d m.msg.d, pint .i64 f] [] (.d (cOutD n (chiefR n rs m f))) [] := by
  have e1 : ∀ r : DOut, cOutD n r = .tup [chD n r.rs, .slc 12 (sentsD r.o), I64 r.e] := fun _ => rfl
  have hb : kindBad m f = false := by unfold kindBad clientV nodeV; rw [hk, hf]; rfl
  have h5 : ¬ (m.kind == 5) = true := by rw [hk]; decide
  have hnv : ¬ (nodeV m && (decide (f < 0) || decide ((n : Int) ≤ f))) = true := by rw [hr2]; simp
  have r94 := run94n n rs m.cycle hc
  unfold chiefR
  rw [if_neg (by rw [hb]; simp), if_neg h5, if_neg hnv, if_pos hc, e1]
  unfold chD VMsg.msg Msg.d Msg.cells at *
  refine Runs.of (kit Try.prog) Try.func91 rfl rfl (by rw [Try.ntmps91]; exact of_decide_eq_true rfl) ?_; rw [Try.ntmps91, Try.results91]
  repeat' (first|((first|refine goA rfl fun K hK=>?_|refine goB rfl fun K hK=>?_|refine goC rfl rfl fun K hK=>?_|refine goD rfl rfl fun K hK=>?_);simp (dsimp:=false) only [↓gq,↓stepP,↓stepG,go_sem,hk,hf,hr2])|refine Pwp.seq ?_|refine Pwp.block ?_|(refine Pwp.exit ?_;simp only [thenS,blockS,if_true,if_false,reduceIte,Nat.reduceEqDiff,Nat.add_one_ne_zero,reduceCtorEq])|(refine Pwp.skip ?_;simp only [thenS,blockS])|(refine Pwp.cond rfl True.intro (fun h=>?_) (fun h=>?_)<;>(try (cases h;done))<;>(try simp only [h]))|refine Pwp.ret ?_|(refine hK _ ?_;clear hK K)|(refine hK _ _ rfl ?_;clear hK K)|(refine CallK.give (ds:=[.agg [I64 n, .slc 5 (runsC n rs)], I64 m.cycle]) rfl (r94) (by simp) ?_)|refine CallG.off ?_|with_reducible refine Or.inl ?_|simp only [thenS,blockS]|with_reducible refine And.intro ?_ ?_|with_reducible exact True.intro|simp (dsimp:=false) only [↓gq,↓stepP,↓stepG,go_sem,hk,hf,hr2])
  all_goals (try (first|(intro hg;simp [hg];done)|exact of_decide_eq_true rfl|(cases h;done)))
  all_goals (try (intro hg; simp only [hg, Bool.not_false, Bool.not_true, Bool.and_self, Bool.true_and, Bool.and_true, true_and, and_self, imp_self, implies_true]; done))
  (refine Fin.data (.inr rfl) (by simp (dsimp:=false) only [↓gq,↓stepP,↓stepG,go_sem,resL]; rfl) (by simp only [and_self]) (by simp (dsimp:=false) only [↓gq,↓stepP,↓stepG,go_sem,resP,Nat.le_refl,List.take_length]; try rfl) ?_)
  simp [sentsD]
set_option maxHeartbeats 16000000 in
theorem run91g11 (n : Nat) (rs : List DRun) (m : VMsg) (f : Int) (hn : n ≤ 8) (hr : RunsOK n rs) (hl : rs.length ≤ 10000) (hml : m.ls.length ≤ 100) (hk : m.kind = 11) (hf : (f == -1) = false) (hr2 : (decide (f < 0) || decide ((n : Int) ≤ f)) = false) (hc : (decide (m.cycle < 1) || decide ((rs.length : Int) < m.cycle)) = false) : Runs Try.prog 91 [.d (chD n rs), .d m.msg.d, pint .i64 f] [] (.d (cOutD n (chiefR n rs m f))) [] := by
  have e1 : ∀ r : DOut, cOutD n r = .tup [chD n r.rs, .slc 12 (sentsD r.o), I64 r.e] := fun _ => rfl
  have hb : kindBad m f = false := by unfold kindBad clientV nodeV; rw [hk, hf]; rfl
  have h5 : ¬ (m.kind == 5) = true := by rw [hk]; decide
  have hnv : ¬ (nodeV m && (decide (f < 0) || decide ((n : Int) ≤ f))) = true := by rw [hr2]; simp
  have hc2 := hc
  have hr3 := hr2
  simp only [Bool.or_eq_false_iff, decide_eq_false_iff_not] at hc2 hr3
  obtain ⟨g, rfl⟩ : ∃ g : Nat, f = (g : Int) := ⟨f.toNat, by omega⟩
  have r94 := run94 n rs m.cycle hn hr (by omega) hc
  have rO := run149 n rs (atR rs m.cycle) m g hn (atR_ok hr m.cycle) (by omega) hl (by omega) (by omega) hml
  unfold chiefR
  rw [if_neg (by rw [hb]; simp), if_neg h5, if_neg hnv, if_neg (by rw [hc]; simp), if_pos (by rw [hk]; rfl), Int.toNat_natCast]
  rw [e1] at rO ⊢
  generalize cOffer n rs (atR rs m.cycle) m.cycle m.ls g = R at *
  generalize atR rs m.cycle = d at *
  unfold runP at *
  unfold chD VMsg.msg Msg.d Msg.cells at *
  rw [hk] at rO
  refine Runs.of (kit Try.prog) Try.func91 rfl rfl (by rw [Try.ntmps91]; exact of_decide_eq_true rfl) ?_; rw [Try.ntmps91, Try.results91]
  repeat' (first|((first|refine goA rfl fun K hK=>?_|refine goB rfl fun K hK=>?_|refine goC rfl rfl fun K hK=>?_|refine goD rfl rfl fun K hK=>?_);simp (dsimp:=false) only [↓gq,↓stepP,↓stepG,go_sem,hk,hf,hr2])|refine Pwp.seq ?_|refine Pwp.block ?_|(refine Pwp.exit ?_;simp only [thenS,blockS,if_true,if_false,reduceIte,Nat.reduceEqDiff,Nat.add_one_ne_zero,reduceCtorEq])|(refine Pwp.skip ?_;simp only [thenS,blockS])|(refine Pwp.cond rfl True.intro (fun h=>?_) (fun h=>?_)<;>(try (cases h;done))<;>(try simp only [h]))|refine Pwp.ret ?_|(refine hK _ ?_;clear hK K)|(refine hK _ _ rfl ?_;clear hK K)|(refine CallK.rowIn rO rfl rfl rfl (by simp) ?_)|(refine CallK.give (ds:=[.agg [I64 n, .slc 5 (runsC n rs)], I64 m.cycle]) rfl (r94) (by simp) ?_)|refine CallG.off ?_|with_reducible refine Or.inl ?_|simp only [thenS,blockS]|with_reducible refine And.intro ?_ ?_|with_reducible exact True.intro|simp (dsimp:=false) only [↓gq,↓stepP,↓stepG,go_sem,hk,hf,hr2])
  all_goals (try (first|(intro hg;simp [hg];done)|exact of_decide_eq_true rfl|(cases h;done)))
  all_goals (try (intro hg; simp only [hg, Bool.not_false, Bool.not_true, Bool.and_self, Bool.true_and, Bool.and_true, true_and, and_self, imp_self, implies_true]; done))
  (refine Fin.data (.inr rfl) (by simp (dsimp:=false) only [↓gq,↓stepP,↓stepG,go_sem,resL]; rfl) (by simp only [and_self]) (by simp (dsimp:=false) only [↓gq,↓stepP,↓stepG,go_sem,resP,Nat.le_refl,List.take_length]; try rfl) ?_)
  exact subD_refl _
set_option maxHeartbeats 16000000 in
theorem run91g13 (n : Nat) (rs : List DRun) (m : VMsg) (f : Int) (hn : n ≤ 8) (hr : RunsOK n rs) (hl : rs.length ≤ 10000) (hml : m.ls.length ≤ 100) (hk : m.kind = 13) (hf : (f == -1) = false) (hr2 : (decide (f < 0) || decide ((n : Int) ≤ f)) = false) (hc : (decide (m.cycle < 1) || decide ((rs.length : Int) < m.cycle)) = false) : Runs Try.prog 91 [.d (chD n rs), .d m.msg.d, pint .i64 f] [] (.d (cOutD n (chiefR n rs m f))) [] := by
  have e1 : ∀ r : DOut, cOutD n r = .tup [chD n r.rs, .slc 12 (sentsD r.o), I64 r.e] := fun _ => rfl
  have hb : kindBad m f = false := by unfold kindBad clientV nodeV; rw [hk, hf]; rfl
  have h5 : ¬ (m.kind == 5) = true := by rw [hk]; decide
  have hnv : ¬ (nodeV m && (decide (f < 0) || decide ((n : Int) ≤ f))) = true := by rw [hr2]; simp
  have hc2 := hc
  have hr3 := hr2
  simp only [Bool.or_eq_false_iff, decide_eq_false_iff_not] at hc2 hr3
  obtain ⟨g, rfl⟩ : ∃ g : Nat, f = (g : Int) := ⟨f.toNat, by omega⟩
  have r94 := run94 n rs m.cycle hn hr (by omega) hc
  have rO := run150 n rs (atR rs m.cycle) m g hn (atR_ok hr m.cycle) (by omega) hl (by omega) (by omega)
  unfold chiefR
  rw [if_neg (by rw [hb]; simp), if_neg h5, if_neg hnv, if_neg (by rw [hc]; simp), if_neg (by rw [hk]; decide), if_pos (by rw [hk]; rfl), Int.toNat_natCast]
  rw [e1] at rO ⊢
  generalize cVote n rs (atR rs m.cycle) m.cycle m.yes g = R at *
  generalize atR rs m.cycle = d at *
  unfold runP at *
  unfold chD VMsg.msg Msg.d Msg.cells at *
  rw [hk] at rO
  refine Runs.of (kit Try.prog) Try.func91 rfl rfl (by rw [Try.ntmps91]; exact of_decide_eq_true rfl) ?_; rw [Try.ntmps91, Try.results91]
  repeat' (first|((first|refine goA rfl fun K hK=>?_|refine goB rfl fun K hK=>?_|refine goC rfl rfl fun K hK=>?_|refine goD rfl rfl fun K hK=>?_);simp (dsimp:=false) only [↓gq,↓stepP,↓stepG,go_sem,hk,hf,hr2])|refine Pwp.seq ?_|refine Pwp.block ?_|(refine Pwp.exit ?_;simp only [thenS,blockS,if_true,if_false,reduceIte,Nat.reduceEqDiff,Nat.add_one_ne_zero,reduceCtorEq])|(refine Pwp.skip ?_;simp only [thenS,blockS])|(refine Pwp.cond rfl True.intro (fun h=>?_) (fun h=>?_)<;>(try (cases h;done))<;>(try simp only [h]))|refine Pwp.ret ?_|(refine hK _ ?_;clear hK K)|(refine hK _ _ rfl ?_;clear hK K)|(refine CallK.rowIn rO rfl rfl rfl (by simp) ?_)|(refine CallK.give (ds:=[.agg [I64 n, .slc 5 (runsC n rs)], I64 m.cycle]) rfl (r94) (by simp) ?_)|refine CallG.off ?_|with_reducible refine Or.inl ?_|simp only [thenS,blockS]|with_reducible refine And.intro ?_ ?_|with_reducible exact True.intro|simp (dsimp:=false) only [↓gq,↓stepP,↓stepG,go_sem,hk,hf,hr2])
  all_goals (try (first|(intro hg;simp [hg];done)|exact of_decide_eq_true rfl|(cases h;done)))
  all_goals (try (intro hg; simp only [hg, Bool.not_false, Bool.not_true, Bool.and_self, Bool.true_and, Bool.and_true, true_and, and_self, imp_self, implies_true]; done))
  (refine Fin.data (.inr rfl) (by simp (dsimp:=false) only [↓gq,↓stepP,↓stepG,go_sem,resL]; rfl) (by simp only [and_self]) (by simp (dsimp:=false) only [↓gq,↓stepP,↓stepG,go_sem,resP,Nat.le_refl,List.take_length]; try rfl) ?_)
  exact subD_refl _
set_option maxHeartbeats 16000000 in
theorem run91q16t (n : Nat) (rs : List DRun) (m : VMsg) (f : Int) (hn : n ≤ 8) (hr : RunsOK n rs) (hl : rs.length ≤ 10000) (hml : m.ls.length ≤ 100) (hk : m.kind = 16) (hf : (f == -1) = true) (hc : (decide (m.cycle < 1) || decide ((rs.length : Int) < m.cycle)) = false) (ho : openR (atR rs m.cycle) = true) : Runs Try.prog 91 [.d (chD n rs), .d m.msg.d, pint .i64 f] [] (.d (cOutD n (chiefR n rs m f))) [] := by
  have e1 : ∀ r : DOut, cOutD n r = .tup [chD n r.rs, .slc 12 (sentsD r.o), I64 r.e] := fun _ => rfl
  have hb : kindBad m f = false := by unfold kindBad clientV nodeV; rw [hk, hf]; rfl
  have h5 : ¬ (m.kind == 5) = true := by rw [hk]; decide
  have hnv : ¬ (nodeV m && (decide (f < 0) || decide ((n : Int) ≤ f))) = true := by unfold nodeV; rw [hk]; simp
  have hc2 := hc
  simp only [Bool.or_eq_false_iff, decide_eq_false_iff_not] at hc2
  have hok := atR_ok hr m.cycle
  have hol := open_lt hok
  rw [ho] at hol
  have r94 := run94 n rs m.cycle hn hr (by omega) hc
  have r151 := run151 (atR rs m.cycle) (.slc 3 (frD n (atR rs m.cycle))) (.slc 4 (linesD (atR rs m.cycle).ls)) (.slc 1 ((atR rs m.cycle).ns.map I64))
  have hfl := frD_len n (atR rs m.cycle)
  have htk : (frD n (atR rs m.cycle)).take n = frD n (atR rs m.cycle) := List.take_of_length_le (by omega)
  rw [ho] at r151
  have r152 := run152 n rs m.cycle (atR rs m.cycle) false hn (by omega) (by omega) (by omega)
  simp only [Bool.false_eq_true, if_false] at r152
  unfold chiefR
  rw [if_neg (by rw [hb]; simp), if_neg h5, if_neg hnv, if_neg (by rw [hc]; simp), if_neg (by rw [hk]; decide), if_neg (by rw [hk]; decide), ← hol]
  rw [if_neg (by rw [hk]; decide), if_pos (by rw [hk]; rfl)]
  rw [e1] at r152 ⊢
  generalize cEnd n rs m.cycle (atR rs m.cycle) false = R at *
  generalize atR rs m.cycle = d at *
  unfold runP at *
  unfold runC at r152
  unfold chD VMsg.msg Msg.d Msg.cells at *
  refine Runs.of (kit Try.prog) Try.func91 rfl rfl (by rw [Try.ntmps91]; exact of_decide_eq_true rfl) ?_; rw [Try.ntmps91, Try.results91]
  repeat' (first|((first|refine goA rfl fun K hK=>?_|refine goB rfl fun K hK=>?_|refine goC rfl rfl fun K hK=>?_|refine goD rfl rfl fun K hK=>?_);simp (dsimp:=false) only [↓gq,↓stepP,↓stepG,go_sem,hk,hf,hfl,Nat.le_refl])|refine Pwp.seq ?_|refine Pwp.block ?_|(refine Pwp.exit ?_;simp only [thenS,blockS,if_true,if_false,reduceIte,Nat.reduceEqDiff,Nat.add_one_ne_zero,reduceCtorEq])|(refine Pwp.skip ?_;simp only [thenS,blockS])|(refine Pwp.cond rfl True.intro (fun h=>?_) (fun h=>?_)<;>(try (cases h;done))<;>(try simp only [h]))|refine Pwp.ret ?_|(refine hK _ ?_;clear hK K)|(refine hK _ _ rfl ?_;clear hK K)|(refine CallK.toD (ds:=[.agg [I64 d.cur, I64 d.st, .slc 3 (frD n d), .slc 4 (linesD d.ls), .slc 1 (d.ns.map I64)]]) (by simp [toDL, PVal.toD, find, hfl, htk]) r151 rfl ?_)|(refine CallK.give (ds:=[.agg [I64 n, .slc 5 (runsC n rs)], I64 m.cycle, .agg [I64 d.cur, I64 d.st, .slc 3 (frD n d), .slc 4 (linesD d.ls), .slc 1 (d.ns.map I64)], I64 4]) (by simp [toDL, PVal.toD, find, hfl, htk]) r152 (by simp) ?_)|(refine CallK.give (ds:=[.agg [I64 n, .slc 5 (runsC n rs)], I64 m.cycle]) rfl (r94) (by simp) ?_)|refine CallG.off ?_|with_reducible refine Or.inl ?_|simp only [thenS,blockS]|with_reducible refine And.intro ?_ ?_|with_reducible exact True.intro|simp (dsimp:=false) only [↓gq,↓stepP,↓stepG,go_sem,hk,hf,hfl,Nat.le_refl])
  all_goals (try (first|(intro hg;simp [hg];done)|exact of_decide_eq_true rfl|(cases h;done)))
  all_goals (try (intro hg; simp only [hg, Bool.not_false, Bool.not_true, Bool.and_self, Bool.true_and, Bool.and_true, true_and, and_self, imp_self, implies_true]; done))
  (refine Fin.data (.inr rfl) (by simp (dsimp:=false) only [↓gq,↓stepP,↓stepG,go_sem,resL]; rfl) (by simp only [and_self]) (by simp (dsimp:=false) only [↓gq,↓stepP,↓stepG,go_sem,resP,Nat.le_refl,List.take_length]; try rfl) ?_)
  exact subD_refl _
set_option maxHeartbeats 16000000 in
theorem run91q16f (n : Nat) (rs : List DRun) (m : VMsg) (f : Int) (hn : n ≤ 8) (hr : RunsOK n rs) (hl : rs.length ≤ 10000) (hml : m.ls.length ≤ 100) (hk : m.kind = 16) (hf : (f == -1) = true) (hc : (decide (m.cycle < 1) || decide ((rs.length : Int) < m.cycle)) = false) (ho : openR (atR rs m.cycle) = false) : Runs Try.prog 91 [.d (chD n rs), .d m.msg.d, pint .i64 f] [] (.d (cOutD n (chiefR n rs m f))) [] := by
  have e1 : ∀ r : DOut, cOutD n r = .tup [chD n r.rs, .slc 12 (sentsD r.o), I64 r.e] := fun _ => rfl
  have hb : kindBad m f = false := by unfold kindBad clientV nodeV; rw [hk, hf]; rfl
  have h5 : ¬ (m.kind == 5) = true := by rw [hk]; decide
  have hnv : ¬ (nodeV m && (decide (f < 0) || decide ((n : Int) ≤ f))) = true := by unfold nodeV; rw [hk]; simp
  have hc2 := hc
  simp only [Bool.or_eq_false_iff, decide_eq_false_iff_not] at hc2
  have hok := atR_ok hr m.cycle
  have hol := open_lt hok
  rw [ho] at hol
  have r94 := run94 n rs m.cycle hn hr (by omega) hc
  have r151 := run151 (atR rs m.cycle) (.slc 3 (frD n (atR rs m.cycle))) (.slc 4 (linesD (atR rs m.cycle).ls)) (.slc 1 ((atR rs m.cycle).ns.map I64))
  have hfl := frD_len n (atR rs m.cycle)
  have htk : (frD n (atR rs m.cycle)).take n = frD n (atR rs m.cycle) := List.take_of_length_le (by omega)
  rw [ho] at r151
  unfold chiefR
  rw [if_neg (by rw [hb]; simp), if_neg h5, if_neg hnv, if_neg (by rw [hc]; simp), if_neg (by rw [hk]; decide), if_neg (by rw [hk]; decide), ← hol]
  rw [if_pos (by rw [hk]; rfl), e1]
  generalize atR rs m.cycle = d at *
  unfold runP at *
  unfold chD VMsg.msg Msg.d Msg.cells at *
  refine Runs.of (kit Try.prog) Try.func91 rfl rfl (by rw [Try.ntmps91]; exact of_decide_eq_true rfl) ?_; rw [Try.ntmps91, Try.results91]
  repeat' (first|((first|refine goA rfl fun K hK=>?_|refine goB rfl fun K hK=>?_|refine goC rfl rfl fun K hK=>?_|refine goD rfl rfl fun K hK=>?_);simp (dsimp:=false) only [↓gq,↓stepP,↓stepG,go_sem,hk,hf,hfl,Nat.le_refl])|refine Pwp.seq ?_|refine Pwp.block ?_|(refine Pwp.exit ?_;simp only [thenS,blockS,if_true,if_false,reduceIte,Nat.reduceEqDiff,Nat.add_one_ne_zero,reduceCtorEq])|(refine Pwp.skip ?_;simp only [thenS,blockS])|(refine Pwp.cond rfl True.intro (fun h=>?_) (fun h=>?_)<;>(try (cases h;done))<;>(try simp only [h]))|refine Pwp.ret ?_|(refine hK _ ?_;clear hK K)|(refine hK _ _ rfl ?_;clear hK K)|(refine CallK.toD (ds:=[.agg [I64 d.cur, I64 d.st, .slc 3 (frD n d), .slc 4 (linesD d.ls), .slc 1 (d.ns.map I64)]]) (by simp [toDL, PVal.toD, find, hfl, htk]) r151 rfl ?_)|(refine CallK.give (ds:=[.agg [I64 n, .slc 5 (runsC n rs)], I64 m.cycle]) rfl (r94) (by simp) ?_)|refine CallG.off ?_|with_reducible refine Or.inl ?_|simp only [thenS,blockS]|with_reducible refine And.intro ?_ ?_|with_reducible exact True.intro|simp (dsimp:=false) only [↓gq,↓stepP,↓stepG,go_sem,hk,hf,hfl,Nat.le_refl])
  all_goals (try (first|(intro hg;simp [hg];done)|exact of_decide_eq_true rfl|(cases h;done)))
  all_goals (try (intro hg; simp only [hg, Bool.not_false, Bool.not_true, Bool.and_self, Bool.true_and, Bool.and_true, true_and, and_self, imp_self, implies_true]; done))
  (refine Fin.data (.inr rfl) (by simp (dsimp:=false) only [↓gq,↓stepP,↓stepG,go_sem,resL]; rfl) (by simp only [and_self]) (by simp (dsimp:=false) only [↓gq,↓stepP,↓stepG,go_sem,resP,Nat.le_refl,List.take_length]; try rfl) ?_)
  simp [sentsD]
set_option maxHeartbeats 16000000 in
theorem run91q15t (n : Nat) (rs : List DRun) (m : VMsg) (f : Int) (hn : n ≤ 8) (hr : RunsOK n rs) (hl : rs.length ≤ 10000) (hml : m.ls.length ≤ 100) (hk : m.kind = 15) (hf : (f == -1) = false) (hr2 : (decide (f < 0) || decide ((n : Int) ≤ f)) = false) (hc : (decide (m.cycle < 1) || decide ((rs.length : Int) < m.cycle)) = false) (ho : openR (atR rs m.cycle) = true) : Runs Try.prog 91 [.d (chD n rs), .d m.msg.d, pint .i64 f] [] (.d (cOutD n (chiefR n rs m f))) [] := by
  have e1 : ∀ r : DOut, cOutD n r = .tup [chD n r.rs, .slc 12 (sentsD r.o), I64 r.e] := fun _ => rfl
  have hb : kindBad m f = false := by unfold kindBad clientV nodeV; rw [hk, hf]; rfl
  have h5 : ¬ (m.kind == 5) = true := by rw [hk]; decide
  have hnv : ¬ (nodeV m && (decide (f < 0) || decide ((n : Int) ≤ f))) = true := by rw [hr2]; simp
  have hc2 := hc
  simp only [Bool.or_eq_false_iff, decide_eq_false_iff_not] at hc2
  have hok := atR_ok hr m.cycle
  have hol := open_lt hok
  rw [ho] at hol
  have r94 := run94 n rs m.cycle hn hr (by omega) hc
  have r151 := run151 (atR rs m.cycle) (.slc 3 (frD n (atR rs m.cycle))) (.slc 4 (linesD (atR rs m.cycle).ls)) (.slc 1 ((atR rs m.cycle).ns.map I64))
  have hfl := frD_len n (atR rs m.cycle)
  have htk : (frD n (atR rs m.cycle)).take n = frD n (atR rs m.cycle) := List.take_of_length_le (by omega)
  rw [ho] at r151
  unfold chiefR
  rw [if_neg (by rw [hb]; simp), if_neg h5, if_neg hnv, if_neg (by rw [hc]; simp), if_neg (by rw [hk]; decide), if_neg (by rw [hk]; decide), ← hol]
  rw [if_pos (by rw [hk]; rfl), e1]
  generalize atR rs m.cycle = d at *
  unfold runP at *
  unfold chD VMsg.msg Msg.d Msg.cells at *
  refine Runs.of (kit Try.prog) Try.func91 rfl rfl (by rw [Try.ntmps91]; exact of_decide_eq_true rfl) ?_; rw [Try.ntmps91, Try.results91]
  repeat' (first|((first|refine goA rfl fun K hK=>?_|refine goB rfl fun K hK=>?_|refine goC rfl rfl fun K hK=>?_|refine goD rfl rfl fun K hK=>?_);simp (dsimp:=false) only [↓gq,↓stepP,↓stepG,go_sem,hk,hf,hr2,hfl,Nat.le_refl])|refine Pwp.seq ?_|refine Pwp.block ?_|(refine Pwp.exit ?_;simp only [thenS,blockS,if_true,if_false,reduceIte,Nat.reduceEqDiff,Nat.add_one_ne_zero,reduceCtorEq])|(refine Pwp.skip ?_;simp only [thenS,blockS])|(refine Pwp.cond rfl True.intro (fun h=>?_) (fun h=>?_)<;>(try (cases h;done))<;>(try simp only [h]))|refine Pwp.ret ?_|(refine hK _ ?_;clear hK K)|(refine hK _ _ rfl ?_;clear hK K)|(refine CallK.toD (ds:=[.agg [I64 d.cur, I64 d.st, .slc 3 (frD n d), .slc 4 (linesD d.ls), .slc 1 (d.ns.map I64)]]) (by simp [toDL, PVal.toD, find, hfl, htk]) r151 rfl ?_)|(refine CallK.give (ds:=[.agg [I64 n, .slc 5 (runsC n rs)], I64 m.cycle]) rfl (r94) (by simp) ?_)|refine CallG.off ?_|with_reducible refine Or.inl ?_|simp only [thenS,blockS]|with_reducible refine And.intro ?_ ?_|with_reducible exact True.intro|simp (dsimp:=false) only [↓gq,↓stepP,↓stepG,go_sem,hk,hf,hr2,hfl,Nat.le_refl])
  all_goals (try (first|(intro hg;simp [hg];done)|exact of_decide_eq_true rfl|(cases h;done)))
  all_goals (try (intro hg; simp only [hg, Bool.not_false, Bool.not_true, Bool.and_self, Bool.true_and, Bool.and_true, true_and, and_self, imp_self, implies_true]; done))
  (refine Fin.data (.inr rfl) (by simp (dsimp:=false) only [↓gq,↓stepP,↓stepG,go_sem,resL]; rfl) (by simp only [and_self]) (by simp (dsimp:=false) only [↓gq,↓stepP,↓stepG,go_sem,resP,Nat.le_refl,List.take_length]; try rfl) ?_)
  simp [sentsD]
set_option maxHeartbeats 16000000 in
theorem run91q15f (n : Nat) (rs : List DRun) (m : VMsg) (f : Int) (hn : n ≤ 8) (hr : RunsOK n rs) (hl : rs.length ≤ 10000) (hml : m.ls.length ≤ 100) (hk : m.kind = 15) (hf : (f == -1) = false) (hr2 : (decide (f < 0) || decide ((n : Int) ≤ f)) = false) (hc : (decide (m.cycle < 1) || decide ((rs.length : Int) < m.cycle)) = false) (ho : openR (atR rs m.cycle) = false) : Runs Try.prog 91 [.d (chD n rs), .d m.msg.d, pint .i64 f] [] (.d (cOutD n (chiefR n rs m f))) [] := by
  have e1 : ∀ r : DOut, cOutD n r = .tup [chD n r.rs, .slc 12 (sentsD r.o), I64 r.e] := fun _ => rfl
  have hb : kindBad m f = false := by unfold kindBad clientV nodeV; rw [hk, hf]; rfl
  have h5 : ¬ (m.kind == 5) = true := by rw [hk]; decide
  have hnv : ¬ (nodeV m && (decide (f < 0) || decide ((n : Int) ≤ f))) = true := by rw [hr2]; simp
  have hc2 := hc
  simp only [Bool.or_eq_false_iff, decide_eq_false_iff_not] at hc2
  have hok := atR_ok hr m.cycle
  have hol := open_lt hok
  rw [ho] at hol
  have r94 := run94 n rs m.cycle hn hr (by omega) hc
  have r151 := run151 (atR rs m.cycle) (.slc 3 (frD n (atR rs m.cycle))) (.slc 4 (linesD (atR rs m.cycle).ls)) (.slc 1 ((atR rs m.cycle).ns.map I64))
  have hfl := frD_len n (atR rs m.cycle)
  have htk : (frD n (atR rs m.cycle)).take n = frD n (atR rs m.cycle) := List.take_of_length_le (by omega)
  rw [ho] at r151
  unfold chiefR
  rw [if_neg (by rw [hb]; simp), if_neg h5, if_neg hnv, if_neg (by rw [hc]; simp), if_neg (by rw [hk]; decide), if_neg (by rw [hk]; decide), ← hol]
  rw [if_neg (by rw [hk]; decide), if_neg (by rw [hk]; decide), e1]
  generalize atR rs m.cycle = d at *
  unfold runP at *
  unfold chD VMsg.msg Msg.d Msg.cells at *
  refine Runs.of (kit Try.prog) Try.func91 rfl rfl (by rw [Try.ntmps91]; exact of_decide_eq_true rfl) ?_; rw [Try.ntmps91, Try.results91]
  repeat' (first|((first|refine goA rfl fun K hK=>?_|refine goB rfl fun K hK=>?_|refine goC rfl rfl fun K hK=>?_|refine goD rfl rfl fun K hK=>?_);simp (dsimp:=false) only [↓gq,↓stepP,↓stepG,go_sem,hk,hf,hr2,hfl,Nat.le_refl])|refine Pwp.seq ?_|refine Pwp.block ?_|(refine Pwp.exit ?_;simp only [thenS,blockS,if_true,if_false,reduceIte,Nat.reduceEqDiff,Nat.add_one_ne_zero,reduceCtorEq])|(refine Pwp.skip ?_;simp only [thenS,blockS])|(refine Pwp.cond rfl True.intro (fun h=>?_) (fun h=>?_)<;>(try (cases h;done))<;>(try simp only [h]))|refine Pwp.ret ?_|(refine hK _ ?_;clear hK K)|(refine hK _ _ rfl ?_;clear hK K)|(refine CallK.toD (ds:=[.agg [I64 d.cur, I64 d.st, .slc 3 (frD n d), .slc 4 (linesD d.ls), .slc 1 (d.ns.map I64)]]) (by simp [toDL, PVal.toD, find, hfl, htk]) r151 rfl ?_)|(refine CallK.give (ds:=[.agg [I64 n, .slc 5 (runsC n rs)], I64 m.cycle]) rfl (r94) (by simp) ?_)|refine CallG.off ?_|with_reducible refine Or.inl ?_|simp only [thenS,blockS]|with_reducible refine And.intro ?_ ?_|with_reducible exact True.intro|simp (dsimp:=false) only [↓gq,↓stepP,↓stepG,go_sem,hk,hf,hr2,hfl,Nat.le_refl])
  all_goals (try (first|(intro hg;simp [hg];done)|exact of_decide_eq_true rfl|(cases h;done)))
  all_goals (try (intro hg; simp only [hg, Bool.not_false, Bool.not_true, Bool.and_self, Bool.true_and, Bool.and_true, true_and, and_self, imp_self, implies_true]; done))
  (refine Fin.data (.inr rfl) (by simp (dsimp:=false) only [↓gq,↓stepP,↓stepG,go_sem,resL]; rfl) (by simp only [and_self]) (by simp (dsimp:=false) only [↓gq,↓stepP,↓stepG,go_sem,resP,Nat.le_refl,List.take_length]; try rfl) ?_)
  simp [sentsD, sentD, saidD, decV, VMsg.msg, Msg.cells, subD, subL, subV, linesD]
theorem run91 (n : Nat) (rs : List DRun) (m : VMsg) (f : Int) (hn : n ≤ 8) (hr : RunsOK n rs) (hl : rs.length ≤ 10000) (hml : m.ls.length ≤ 100) : Runs Try.prog 91 [.d (chD n rs), .d m.msg.d, pint .i64 f] [] (.d (cOutD n (chiefR n rs m f))) [] := by
  by_cases k5 : m.kind = 5
  · cases hf : (f == -1) with
    | false => exact run91w5 n rs m f hn hr hl hml k5 hf
    | true => exact run91s n rs m f hn hr hl hml k5 hf
  by_cases k16 : m.kind = 16
  · cases hf : (f == -1) with
    | false => exact run91w16 n rs m f hn hr hl hml k16 hf
    | true =>
      cases hc : (decide (m.cycle < 1) || decide ((rs.length : Int) < m.cycle)) with
      | true => exact run91m16 n rs m f hn hr hl hml k16 hf hc
      | false =>
        cases ho : openR (atR rs m.cycle) with
        | true => exact run91q16t n rs m f hn hr hl hml k16 hf hc ho
        | false => exact run91q16f n rs m f hn hr hl hml k16 hf hc ho
  by_cases k11 : m.kind = 11
  · cases hf : (f == -1) with
    | true => exact run91w11 n rs m f hn hr hl hml k11 hf
    | false =>
      cases hr2 : (decide (f < 0) || decide ((n : Int) ≤ f)) with
      | true => exact run91n11 n rs m f hn hr hl hml k11 hf hr2
      | false =>
        cases hc : (decide (m.cycle < 1) || decide ((rs.length : Int) < m.cycle)) with
        | true => exact run91m11 n rs m f hn hr hl hml k11 hf hr2 hc
        | false =>
          exact run91g11 n rs m f hn hr hl hml k11 hf hr2 hc
  by_cases k13 : m.kind = 13
  · cases hf : (f == -1) with
    | true => exact run91w13 n rs m f hn hr hl hml k13 hf
    | false =>
      cases hr2 : (decide (f < 0) || decide ((n : Int) ≤ f)) with
      | true => exact run91n13 n rs m f hn hr hl hml k13 hf hr2
      | false =>
        cases hc : (decide (m.cycle < 1) || decide ((rs.length : Int) < m.cycle)) with
        | true => exact run91m13 n rs m f hn hr hl hml k13 hf hr2 hc
        | false =>
          exact run91g13 n rs m f hn hr hl hml k13 hf hr2 hc
  by_cases k15 : m.kind = 15
  · cases hf : (f == -1) with
    | true => exact run91w15 n rs m f hn hr hl hml k15 hf
    | false =>
      cases hr2 : (decide (f < 0) || decide ((n : Int) ≤ f)) with
      | true => exact run91n15 n rs m f hn hr hl hml k15 hf hr2
      | false =>
        cases hc : (decide (m.cycle < 1) || decide ((rs.length : Int) < m.cycle)) with
        | true => exact run91m15 n rs m f hn hr hl hml k15 hf hr2 hc
        | false =>
          cases ho : openR (atR rs m.cycle) with
          | true => exact run91q15t n rs m f hn hr hl hml k15 hf hr2 hc ho
          | false => exact run91q15f n rs m f hn hr hl hml k15 hf hr2 hc ho
  exact run91o n rs m f hn hr hl hml (by simpa using k5) (by simpa using k16) (by simpa using k11) (by simpa using k13) (by simpa using k15)
end Go.Proofs.Ytdodgbhodkcckaa.Pv
end
section
set_option linter.unusedVariables false
set_option linter.unusedSimpArgs false
set_option autoImplicit false
set_option maxRecDepth 100000
namespace Go.Proofs.Ytdodgbhodkcckaa.Pv
open Go Go.RowKit
def wtsR : Nat → List DRun → List Int
  | _, [] => []
  | i, d :: l => if openR d = true then ((i : Int) + 1) :: wtsR (i + 1) l else wtsR (i + 1) l
theorem wts_append : ∀ (l k : List DRun) (i : Nat), wtsR i (l ++ k) = wtsR i l ++ wtsR (i + l.length) k
  | [], k, i => by simp [wtsR]
  | x :: l, k, i => by
    simp only [List.cons_append, wtsR, wts_append l k (i + 1), List.length_cons, show i + 1 + l.length = i + (l.length + 1) by omega]
    split <;> simp
theorem wts_take {l : List DRun} {i : Nat} {x : DRun} (h : l[i]? = some x) : wtsR 0 (l.take (i + 1)) = wtsR 0 (l.take i) ++ if openR x = true then [(i : Int) + 1] else [] := by
  have hi := (List.getElem?_eq_some_iff.1 h).1
  rw [List.take_add_one, h]
  simp only [Option.toList]
  rw [wts_append, List.length_take, Nat.min_eq_left (by omega), Nat.zero_add]
  simp [wtsR]
theorem wts_len : ∀ (l : List DRun) (i : Nat), (wtsR i l).length ≤ l.length
  | [], i => Nat.le_refl _
  | x :: l, i => by
    have := wts_len l (i + 1)
    simp only [wtsR]
    split <;> simp <;> omega
theorem wts_at {l : List DRun} {i : Nat} {x : DRun} (h : l[i]? = some x) (hx : openR x = true) : (wtsR 0 l)[(wtsR 0 (l.take i)).length]? = some ((i : Int) + 1) ∧ (wtsR 0 (l.take i)).length < (wtsR 0 l).length := by
  have h1 := wts_take h
  rw [if_pos hx] at h1
  have h2 := wts_append (l.take (i + 1)) (l.drop (i + 1)) 0
  rw [List.take_append_drop, h1] at h2
  rw [h2]
  constructor
  · rw [List.getElem?_append_left (by simp), List.getElem?_append_right (Nat.le_refl _)]; simp
  · simp
def L95 (n : Nat) (rs : List DRun) (i : Nat) : St := ⟨[(9, pint .i64 i), (8, pint .i64 rs.length), (7, .d (.slc 5 (runsC n rs))), (3, .own 9 0 1 0 (wtsR 0 (rs.take i)).length)], [(9, .arr 3 1 0 none ((wtsR 0 (rs.take i)).map I64))], 36⟩
set_option maxHeartbeats 16000000 in
theorem run95 (n : Nat) (rs : List DRun) (hl : rs.length ≤ 10000) : Runs Try.prog 95 [.d (chD n rs)] [] (.d (.slc 1 ((wtsR 0 rs).map I64))) [] := by
  have hlen := runsC_len n rs
  unfold chD
  refine Runs.of (kit Try.prog) Try.func95 rfl rfl (by rw [Try.ntmps95]; exact of_decide_eq_true rfl) ?_; rw [Try.ntmps95, Try.results95]
  repeat' (first|((first|refine goA rfl fun K hK=>?_|refine goB rfl fun K hK=>?_|refine goC rfl rfl fun K hK=>?_|refine goD rfl rfl fun K hK=>?_);simp (dsimp:=false) only [↓gq,↓stepP,↓stepG,go_sem,hlen])|refine Pwp.seq ?_|refine Pwp.block ?_|(refine Pwp.exit ?_;simp only [thenS,blockS,if_true,if_false,reduceIte,Nat.reduceEqDiff,Nat.add_one_ne_zero,reduceCtorEq])|(refine Pwp.skip ?_;simp only [thenS,blockS])|(refine Pwp.cond rfl True.intro (fun h=>?_) (fun h=>?_)<;>(try (cases h;done))<;>(try simp only [h]))|refine Pwp.ret ?_|(refine hK _ ?_;clear hK K)|(refine hK _ _ rfl ?_;clear hK K)|refine CallG.off ?_|with_reducible refine Or.inl ?_|simp only [thenS,blockS]|with_reducible refine And.intro ?_ ?_|with_reducible exact True.intro|simp (dsimp:=false) only [↓gq,↓stepP,↓stepG,go_sem,hlen])
  all_goals (try (first|(intro hg;simp [hg];done)|exact of_decide_eq_true rfl|(cases h;done)))
  refine Pwp.range rs.length (S := L95 n rs) (Sub.view (VN 9) (by simp [L95]) rfl (by simp [L95,wtsR,hlen]) (by simp [L95,wtsR,hlen])) (fun i hi => ?_) ?_
  · obtain ⟨x, hx, hm⟩ := at_lt hi
    have hg := runsC_get (n := n) hx
    have c1 := dlt hi
    have w1 := wrap_succ (i := i) (by omega)
    have r151 := run151 x (.slc 3 (frD n x)) (.slc 4 (linesD x.ls)) (.slc 1 (x.ns.map I64))
    have ht := wts_take hx
    have hwl := wts_len (rs.take i) 0
    rw [List.length_take] at hwl
    have hln : ((wtsR 0 (rs.take i)).map I64).length = (wtsR 0 (rs.take i)).length := by simp
    have htk : ((wtsR 0 (rs.take i)).map I64).take (wtsR 0 (rs.take i)).length = (wtsR 0 (rs.take i)).map I64 := List.take_of_length_le (by omega)
    cases hc : openR x with
    | true =>
      rw [hc] at r151
      rw [if_pos hc] at ht
      have ht2 : (wtsR 0 (rs.take (i + 1))).map I64 = (wtsR 0 (rs.take i)).map I64 ++ [I64 ((i + 1 : Nat) : Int)] := by rw [ht]; simp
      have hl2 : (wtsR 0 (rs.take (i + 1))).length = (wtsR 0 (rs.take i)).length + 1 := by rw [ht]; simp
      unfold L95
      repeat' (first|((first|refine goA rfl fun K hK=>?_|refine goB rfl fun K hK=>?_|refine goC rfl rfl fun K hK=>?_|refine goD rfl rfl fun K hK=>?_);simp (dsimp:=false) only [↓gq,↓stepP,↓stepG,go_sem,hg,c1,w1,hln,htk])|refine Pwp.seq ?_|refine Pwp.block ?_|(refine Pwp.exit ?_;simp only [thenS,blockS,if_true,if_false,reduceIte,Nat.reduceEqDiff,Nat.add_one_ne_zero,reduceCtorEq])|(refine Pwp.skip ?_;simp only [thenS,blockS])|(refine Pwp.cond rfl True.intro (fun h=>?_) (fun h=>?_)<;>(try (cases h;done))<;>(try simp only [h]))|refine Pwp.ret ?_|(refine hK _ ?_;clear hK K)|(refine hK _ _ rfl ?_;clear hK K)|(refine CallK.toD (ds:=[.agg [I64 x.cur, I64 x.st, .slc 3 (frD n x), .slc 4 (linesD x.ls), .slc 1 (x.ns.map I64)]]) rfl (r151) rfl ?_)|refine CallG.off ?_|with_reducible refine Or.inl ?_|simp only [thenS,blockS]|with_reducible refine And.intro ?_ ?_|with_reducible exact True.intro|simp (dsimp:=false) only [↓gq,↓stepP,↓stepG,go_sem,hg,c1,w1,hln,htk])
      all_goals (try (first|(intro hg;simp [hg];done)|exact of_decide_eq_true rfl|(cases h;done)))
      all_goals (try (first | omega | (simp [maxLen]; omega) | (simp [hln]; done)))
      exact Sub.view (VR 9 1) (by simp [L95]) rfl (by simp [L95,ht2,hl2]) (by simp [L95,ht2,hl2])
    | false =>
      rw [hc] at r151
      rw [if_neg (by rw [hc]; simp), List.append_nil] at ht
      unfold L95
      repeat' (first|((first|refine goA rfl fun K hK=>?_|refine goB rfl fun K hK=>?_|refine goC rfl rfl fun K hK=>?_|refine goD rfl rfl fun K hK=>?_);simp (dsimp:=false) only [↓gq,↓stepP,↓stepG,go_sem,hg,c1,w1,hln,htk])|refine Pwp.seq ?_|refine Pwp.block ?_|(refine Pwp.exit ?_;simp only [thenS,blockS,if_true,if_false,reduceIte,Nat.reduceEqDiff,Nat.add_one_ne_zero,reduceCtorEq])|(refine Pwp.skip ?_;simp only [thenS,blockS])|(refine Pwp.cond rfl True.intro (fun h=>?_) (fun h=>?_)<;>(try (cases h;done))<;>(try simp only [h]))|refine Pwp.ret ?_|(refine hK _ ?_;clear hK K)|(refine hK _ _ rfl ?_;clear hK K)|(refine CallK.toD (ds:=[.agg [I64 x.cur, I64 x.st, .slc 3 (frD n x), .slc 4 (linesD x.ls), .slc 1 (x.ns.map I64)]]) rfl (r151) rfl ?_)|refine CallG.off ?_|with_reducible refine Or.inl ?_|simp only [thenS,blockS]|with_reducible refine And.intro ?_ ?_|with_reducible exact True.intro|simp (dsimp:=false) only [↓gq,↓stepP,↓stepG,go_sem,hg,c1,w1,hln,htk])
      all_goals (try (first|(intro hg;simp [hg];done)|exact of_decide_eq_true rfl|(cases h;done)))
      exact Sub.view V0 (by simp [L95]) rfl (by simp [L95,ht]) (by simp [L95,ht])
  · have c1 := dge (Nat.le_refl rs.length)
    have htk : ((wtsR 0 rs).map I64).take (wtsR 0 rs).length = (wtsR 0 rs).map I64 := List.take_of_length_le (by simp)
    have hln : ((wtsR 0 rs).map I64).length = (wtsR 0 rs).length := by simp
    unfold L95
    rw [List.take_length]
    repeat' (first|((first|refine goA rfl fun K hK=>?_|refine goB rfl fun K hK=>?_|refine goC rfl rfl fun K hK=>?_|refine goD rfl rfl fun K hK=>?_);simp (dsimp:=false) only [↓gq,↓stepP,↓stepG,go_sem,c1,htk,hln])|refine Pwp.seq ?_|refine Pwp.block ?_|(refine Pwp.exit ?_;simp only [thenS,blockS,if_true,if_false,reduceIte,Nat.reduceEqDiff,Nat.add_one_ne_zero,reduceCtorEq])|(refine Pwp.skip ?_;simp only [thenS,blockS])|(refine Pwp.cond rfl True.intro (fun h=>?_) (fun h=>?_)<;>(try (cases h;done))<;>(try simp only [h]))|refine Pwp.ret ?_|(refine hK _ ?_;clear hK K)|(refine hK _ _ rfl ?_;clear hK K)|refine CallG.off ?_|with_reducible refine Or.inl ?_|simp only [thenS,blockS]|with_reducible refine And.intro ?_ ?_|with_reducible exact True.intro|simp (dsimp:=false) only [↓gq,↓stepP,↓stepG,go_sem,c1,htk,hln])
    all_goals (try (first|(intro hg;simp [hg];done)|exact of_decide_eq_true rfl|(cases h;done)))
    (refine Fin.data (.inr rfl) (by simp (dsimp:=false) only [↓gq,↓stepP,↓stepG,go_sem,resL,htk,hln]; rfl) (by simp only [and_self]) (by simp (dsimp:=false) only [↓gq,↓stepP,↓stepG,go_sem,resP,Nat.le_refl,List.take_length,htk,hln]; try rfl) ?_)
    exact subD_refl _
def bxC (n : Nat) (rs : List DRun) : PObj := .box [.d (I64 n), .d (.slc 5 (runsC n rs))]
end Go.Proofs.Ytdodgbhodkcckaa.Pv
end
section
set_option linter.unusedVariables false
set_option linter.unusedSimpArgs false
set_option autoImplicit false
set_option maxRecDepth 100000
namespace Go.Proofs.Ytdodgbhodkcckaa.Pv
open Go Go.RowKit
theorem run90n (ws : List VW) (h : decide (60 < (ws.length : Int)) = true) : Runs Try.prog 90 [.d (.slc 12 (vwsD ws))] [] (pbool false) [] := by
  have h2 := vws_len ws
  refine Runs.of (kit Try.prog) Try.func90 rfl rfl (by rw [Try.ntmps90]; exact of_decide_eq_true rfl) ?_; rw [Try.ntmps90, Try.results90]
  repeat' (first|((first|refine goA rfl fun K hK=>?_|refine goB rfl fun K hK=>?_|refine goC rfl rfl fun K hK=>?_|refine goD rfl rfl fun K hK=>?_);simp (dsimp:=false) only [↓gq,↓stepP,↓stepG,go_sem,h2,h])|refine Pwp.seq ?_|refine Pwp.block ?_|(refine Pwp.exit ?_;simp only [thenS,blockS,if_true,if_false,reduceIte,Nat.reduceEqDiff,Nat.add_one_ne_zero,reduceCtorEq])|(refine Pwp.skip ?_;simp only [thenS,blockS])|(refine Pwp.cond rfl True.intro (fun h=>?_) (fun h=>?_)<;>(try (cases h;done))<;>(try simp only [h]))|refine Pwp.ret ?_|(refine hK _ ?_;clear hK K)|(refine hK _ _ rfl ?_;clear hK K)|refine CallG.off ?_|with_reducible refine Or.inl ?_|simp only [thenS,blockS]|with_reducible refine And.intro ?_ ?_|with_reducible exact True.intro|simp (dsimp:=false) only [↓gq,↓stepP,↓stepG,go_sem,h2,h])
  all_goals (try (first|(intro hg;simp [hg];done)|exact of_decide_eq_true rfl|(cases h;done)))
  (refine Fin.data (.inr rfl) (by simp (dsimp:=false) only [↓gq,↓stepP,↓stepG,go_sem,resL]; rfl) (by simp only [and_self]) (by simp (dsimp:=false) only [↓gq,↓stepP,↓stepG,go_sem,resP,Nat.le_refl,List.take_length]; try rfl) ?_)
  exact subD_refl _
def badC (w : VW) : Bool := decide (60 < (w.m.ls.length : Int)) || decide (12 < (w.m.ns.length : Int))
def fitsC (ws : List VW) : Bool := !decide (60 < (ws.length : Int)) && ws.all fun w => !badC w
def L90 (ws : List VW) (i : Nat) : St := ⟨[(10, pint .i64 i), (9, pint .i64 ws.length), (8, .d (.slc 12 (vwsD ws)))], [], 40⟩
set_option maxHeartbeats 16000000 in
theorem run90 (ws : List VW) : Runs Try.prog 90 [.d (.slc 12 (vwsD ws))] [] (pbool (fitsC ws)) [] := by
  unfold fitsC
  cases hc : decide (60 < (ws.length : Int)) with
  | true => exact run90n ws hc
  | false =>
    have h2 := vws_len ws
    have hc2 := hc
    simp only [decide_eq_false_iff_not] at hc2
    rw [Bool.not_false, Bool.true_and]
    refine Runs.of (kit Try.prog) Try.func90 rfl rfl (by rw [Try.ntmps90]; exact of_decide_eq_true rfl) ?_; rw [Try.ntmps90, Try.results90]
    repeat' (first|((first|refine goA rfl fun K hK=>?_|refine goB rfl fun K hK=>?_|refine goC rfl rfl fun K hK=>?_|refine goD rfl rfl fun K hK=>?_);simp (dsimp:=false) only [↓gq,↓stepP,↓stepG,go_sem,h2,hc])|refine Pwp.seq ?_|refine Pwp.block ?_|(refine Pwp.exit ?_;simp only [thenS,blockS,if_true,if_false,reduceIte,Nat.reduceEqDiff,Nat.add_one_ne_zero,reduceCtorEq])|(refine Pwp.skip ?_;simp only [thenS,blockS])|(refine Pwp.cond rfl True.intro (fun h=>?_) (fun h=>?_)<;>(try (cases h;done))<;>(try simp only [h]))|refine Pwp.ret ?_|(refine hK _ ?_;clear hK K)|(refine hK _ _ rfl ?_;clear hK K)|refine CallG.off ?_|with_reducible refine Or.inl ?_|simp only [thenS,blockS]|with_reducible refine And.intro ?_ ?_|with_reducible exact True.intro|simp (dsimp:=false) only [↓gq,↓stepP,↓stepG,go_sem,h2,hc])
    all_goals (try (first|(intro hg;simp [hg];done)|exact of_decide_eq_true rfl|(cases h;done)))
    refine Pwp.rangeI ws.length (fun i s => (∀ x ∈ ws.take i, badC x = false) ∧ s = L90 ws i) (s0 := L90 ws 0) (Sub.view V0 (by simp [L90]) rfl (by simp [L90]) (by simp [L90])) ⟨by simp, rfl⟩ ?_ ?_
    · rintro i s hi ⟨hok, rfl⟩
      obtain ⟨w, hx, hm⟩ := at_lt hi
      have hg := vws_get hx
      have c1 := dlt hi
      have w1 := wrap_succ (i := i) (by omega)
      have hl := lines_len w.m.ls
      have hn : (w.m.ns.map I64).length = w.m.ns.length := by simp
      cases hq : badC w with
      | true =>
        have hr : (ws.all fun w => !badC w) = false := by rw [List.all_eq_false]; exact ⟨w, hm, by simp [hq]⟩
        rw [hr]
        unfold badC at hq
        unfold L90
        repeat' (first|((first|refine goA rfl fun K hK=>?_|refine goB rfl fun K hK=>?_|refine goC rfl rfl fun K hK=>?_|refine goD rfl rfl fun K hK=>?_);simp (dsimp:=false) only [↓gq,↓stepP,↓stepG,go_sem,hg,c1,w1,hl,hn,hq])|refine Pwp.seq ?_|refine Pwp.block ?_|(refine Pwp.exit ?_;simp only [thenS,blockS,if_true,if_false,reduceIte,Nat.reduceEqDiff,Nat.add_one_ne_zero,reduceCtorEq])|(refine Pwp.skip ?_;simp only [thenS,blockS])|(refine Pwp.cond rfl True.intro (fun h=>?_) (fun h=>?_)<;>(try (cases h;done))<;>(try simp only [h]))|refine Pwp.ret ?_|(refine hK _ ?_;clear hK K)|(refine hK _ _ rfl ?_;clear hK K)|refine CallG.off ?_|with_reducible refine Or.inl ?_|simp only [thenS,blockS]|with_reducible refine And.intro ?_ ?_|with_reducible exact True.intro|simp (dsimp:=false) only [↓gq,↓stepP,↓stepG,go_sem,hg,c1,w1,hl,hn,hq])
        all_goals (try (first|(intro hg;simp [hg];done)|exact of_decide_eq_true rfl|(cases h;done)))
        (refine Fin.data (.inr rfl) (by simp (dsimp:=false) only [↓gq,↓stepP,↓stepG,go_sem,resL]; rfl) (by simp only [and_self]) (by simp (dsimp:=false) only [↓gq,↓stepP,↓stepG,go_sem,resP,Nat.le_refl,List.take_length]; try rfl) ?_)
        exact subD_refl _
      | false =>
        have hok' : ∀ x ∈ ws.take (i + 1), badC x = false := by
          intro z hz
          rw [List.take_add_one, hx] at hz
          rcases List.mem_append.1 hz with hz | hz
          · exact hok z hz
          · obtain rfl := by simpa using hz
            exact hq
        unfold badC at hq
        unfold L90
        repeat' (first|((first|refine goA rfl fun K hK=>?_|refine goB rfl fun K hK=>?_|refine goC rfl rfl fun K hK=>?_|refine goD rfl rfl fun K hK=>?_);simp (dsimp:=false) only [↓gq,↓stepP,↓stepG,go_sem,hg,c1,w1,hl,hn,hq])|refine Pwp.seq ?_|refine Pwp.block ?_|(refine Pwp.exit ?_;simp only [thenS,blockS,if_true,if_false,reduceIte,Nat.reduceEqDiff,Nat.add_one_ne_zero,reduceCtorEq])|(refine Pwp.skip ?_;simp only [thenS,blockS])|(refine Pwp.cond rfl True.intro (fun h=>?_) (fun h=>?_)<;>(try (cases h;done))<;>(try simp only [h]))|refine Pwp.ret ?_|(refine hK _ ?_;clear hK K)|(refine hK _ _ rfl ?_;clear hK K)|refine CallG.off ?_|with_reducible refine Or.inl ?_|simp only [thenS,blockS]|with_reducible refine And.intro ?_ ?_|with_reducible exact True.intro|simp (dsimp:=false) only [↓gq,↓stepP,↓stepG,go_sem,hg,c1,w1,hl,hn,hq])
        all_goals (try (first|(intro hg;simp [hg];done)|exact of_decide_eq_true rfl|(cases h;done)))
        exact ⟨_, Sub.view V0 (by simp [L90]) rfl (by simp [L90]) (by simp [L90]), hok', rfl⟩
    · rintro s ⟨hok, rfl⟩
      have c1 := dge (Nat.le_refl ws.length)
      rw [List.take_length] at hok
      have hr : (ws.all fun w => !badC w) = true := by rw [List.all_eq_true]; intro x hx; rw [hok x hx]; rfl
      rw [hr]
      unfold L90
      repeat' (first|((first|refine goA rfl fun K hK=>?_|refine goB rfl fun K hK=>?_|refine goC rfl rfl fun K hK=>?_|refine goD rfl rfl fun K hK=>?_);simp (dsimp:=false) only [↓gq,↓stepP,↓stepG,go_sem,c1])|refine Pwp.seq ?_|refine Pwp.block ?_|(refine Pwp.exit ?_;simp only [thenS,blockS,if_true,if_false,reduceIte,Nat.reduceEqDiff,Nat.add_one_ne_zero,reduceCtorEq])|(refine Pwp.skip ?_;simp only [thenS,blockS])|(refine Pwp.cond rfl True.intro (fun h=>?_) (fun h=>?_)<;>(try (cases h;done))<;>(try simp only [h]))|refine Pwp.ret ?_|(refine hK _ ?_;clear hK K)|(refine hK _ _ rfl ?_;clear hK K)|refine CallG.off ?_|with_reducible refine Or.inl ?_|simp only [thenS,blockS]|with_reducible refine And.intro ?_ ?_|with_reducible exact True.intro|simp (dsimp:=false) only [↓gq,↓stepP,↓stepG,go_sem,c1])
      all_goals (try (first|(intro hg;simp [hg];done)|exact of_decide_eq_true rfl|(cases h;done)))
      (refine Fin.data (.inr rfl) (by simp (dsimp:=false) only [↓gq,↓stepP,↓stepG,go_sem,resL]; rfl) (by simp only [and_self]) (by simp (dsimp:=false) only [↓gq,↓stepP,↓stepG,go_sem,resP,Nat.le_refl,List.take_length]; try rfl) ?_)
      exact subD_refl _
end Go.Proofs.Ytdodgbhodkcckaa.Pv
end
section
set_option linter.unusedVariables false
set_option linter.unusedSimpArgs false
set_option autoImplicit false
namespace Go.Proofs.Ytdodgbhodkcckaa.Pv
open Go Go.RowKit
theorem atR_some {rs : List DRun} {c : Int} (h : (decide (c < 1) || decide ((rs.length : Int) < c)) = false) : 1 ≤ c ∧ c ≤ (rs.length : Int) ∧ rs[(c - 1).toNat]? = some (atR rs c) := by
  rw [Bool.or_eq_false_iff, decide_eq_false_iff_not, decide_eq_false_iff_not] at h
  refine ⟨by omega, by omega, ?_⟩
  have hlt : (c - 1).toNat < rs.length := by omega
  unfold atR
  rw [List.getElem?_eq_getElem hlt]; rfl
theorem chiefR_cases {n : Nat} {rs : List DRun} {m : VMsg} {f : Int} (P : DOut → Prop)
    (h1 : ∀ e, e ≠ 0 → P ⟨e, rs, []⟩)
    (h2 : m.kind = 5 → 0 ≤ m.currency → m.currency ≤ 7 → (∀ d ∈ rs, d.st < 3 → d.cur ≠ m.currency) → P ⟨0, rs ++ [zeroR m.currency], allV n (askV ((rs.length : Int) + 1) m.currency)⟩)
    (h3 : ∀ d, 1 ≤ m.cycle → m.cycle ≤ (rs.length : Int) → rs[(m.cycle - 1).toNat]? = some d → m.kind = 11 → d.st = 1 → 0 ≤ f → f < n → fitV n none m.ls = 0 → okB (offB d f.toNat m.ls).off n = false → P ⟨0, cPut rs m.cycle (offB d f.toNat m.ls), []⟩)
    (h4 : ∀ d, 1 ≤ m.cycle → m.cycle ≤ (rs.length : Int) → rs[(m.cycle - 1).toNat]? = some d → m.kind = 11 → d.st = 1 → 0 ≤ f → f < n → fitV n none m.ls = 0 → okB (offB d f.toNat m.ls).off n = true → badB n (offB d f.toNat m.ls) = true → P (cEnd n rs m.cycle (offB d f.toNat m.ls) false))
    (h5 : ∀ d, 1 ≤ m.cycle → m.cycle ≤ (rs.length : Int) → rs[(m.cycle - 1).toNat]? = some d → m.kind = 11 → d.st = 1 → 0 ≤ f → f < n → fitV n none m.ls = 0 → okB (offB d f.toNat m.ls).off n = true → badB n (offB d f.toNat m.ls) = false →
      P ⟨0, cPut rs m.cycle (prepB n (offB d f.toNat m.ls)), allV n (prepV m.cycle (bothN n (offB d f.toNat m.ls)) (outs n (bothN n (offB d f.toNat m.ls))))⟩)
    (h6 : ∀ d, 1 ≤ m.cycle → m.cycle ≤ (rs.length : Int) → rs[(m.cycle - 1).toNat]? = some d → m.kind = 13 → d.st = 2 → 0 ≤ f → f < n → m.yes = false → P (cEnd n rs m.cycle (votB d f.toNat) false))
    (h7 : ∀ d, 1 ≤ m.cycle → m.cycle ≤ (rs.length : Int) → rs[(m.cycle - 1).toNat]? = some d → m.kind = 13 → d.st = 2 → 0 ≤ f → f < n → m.yes = true → okB (votB d f.toNat).vot n = false → P ⟨0, cPut rs m.cycle (votB d f.toNat), []⟩)
    (h8 : ∀ d, 1 ≤ m.cycle → m.cycle ≤ (rs.length : Int) → rs[(m.cycle - 1).toNat]? = some d → m.kind = 13 → d.st = 2 → 0 ≤ f → f < n → m.yes = true → okB (votB d f.toNat).vot n = true → P (cEnd n rs m.cycle (votB d f.toNat) true))
    (h9 : ∀ d, 1 ≤ m.cycle → m.cycle ≤ (rs.length : Int) → rs[(m.cycle - 1).toNat]? = some d → m.kind = 16 → d.st < 3 → P (cEnd n rs m.cycle d false))
    (h10 : ∀ d, 1 ≤ m.cycle → m.cycle ≤ (rs.length : Int) → rs[(m.cycle - 1).toNat]? = some d → m.kind = 15 → 3 ≤ d.st → P ⟨0, rs, [(f, decV m.cycle (d.st == 3))]⟩) : P (chiefR n rs m f) := by
  unfold chiefR
  split
  · exact h1 _ (by decide)
  rename_i hkb
  split
  · rename_i hk
    have hk : m.kind = 5 := by simpa using hk
    unfold cStart
    split
    · exact h1 _ (by decide)
    rename_i hc
    rw [Bool.not_eq_true, Bool.or_eq_false_iff, decide_eq_false_iff_not, decide_eq_false_iff_not] at hc
    split
    · exact h1 _ (by decide)
    rename_i ha
    refine h2 hk (by omega) (by omega) fun d hd hs he => ha ?_
    rw [List.any_eq_true]
    exact ⟨d, hd, by simp [hs, he]⟩
  rename_i hk5
  split
  · exact h1 _ (by decide)
  rename_i hnode
  split
  · exact h1 _ (by decide)
  rename_i hcc
  obtain ⟨g1, g2, g3⟩ := atR_some (by simpa using hcc)
  generalize atR rs m.cycle = d at *
  have hff : nodeV m = true → 0 ≤ f ∧ f < n := by
    intro hn
    rw [hn, Bool.true_and, Bool.not_eq_true, Bool.or_eq_false_iff, decide_eq_false_iff_not, decide_eq_false_iff_not] at hnode
    omega
  split
  · rename_i hk
    have hk : m.kind = 11 := by simpa using hk
    obtain ⟨f1, f2⟩ := hff (by simp [nodeV, hk])
    unfold cOffer
    split
    · exact h1 _ (by decide)
    rename_i hs
    have hs : d.st = 1 := by simpa using hs
    split
    · exact h1 _ (by decide)
    split
    · exact h1 _ (by decide)
    split
    · rename_i hf
      exact h1 _ (by simpa using hf)
    rename_i hf
    have hf : fitV n none m.ls = 0 := by simpa using hf
    split
    · exact h3 d g1 g2 g3 hk hs f1 f2 hf (by assumption)
    rename_i hok
    have hok : okB (offB d f.toNat m.ls).off n = true := by simpa using hok
    split
    · exact h4 d g1 g2 g3 hk hs f1 f2 hf hok (by assumption)
    · rename_i hb
      exact h5 d g1 g2 g3 hk hs f1 f2 hf hok (by simpa using hb)
  rename_i hk11
  split
  · rename_i hk
    have hk : m.kind = 13 := by simpa using hk
    obtain ⟨f1, f2⟩ := hff (by simp [nodeV, hk])
    unfold cVote
    split
    · exact h1 _ (by decide)
    rename_i hs
    have hs : d.st = 2 := by simpa using hs
    split
    · exact h1 _ (by decide)
    split
    · exact h6 d g1 g2 g3 hk hs f1 f2 (by assumption)
    rename_i hy
    have hy : m.yes = true := by simpa using hy
    split
    · exact h7 d g1 g2 g3 hk hs f1 f2 hy (by assumption)
    · rename_i hok
      exact h8 d g1 g2 g3 hk hs f1 f2 hy (by simpa using hok)
  rename_i hk13
  split
  · exact h1 _ (by decide)
  rename_i hlast
  split
  · rename_i hk
    have hk2 : m.kind = 16 := by simpa using hk
    refine h9 d g1 g2 g3 hk2 ?_
    rw [hk] at hlast
    simpa using hlast
  · rename_i hk16
    have hk2 : m.kind = 15 := by
      simp only [kindBad, clientV, nodeV, Bool.not_eq_true, Bool.or_eq_false_iff] at hkb
      simp at hkb hk5 hk11 hk13 hk16
      first
        | exact hkb.1 hk5 hk16 hk11 hk13
        | (rcases hkb.1 with h | h <;> omega)
    refine h10 d g1 g2 g3 hk2 ?_
    simp only [Bool.not_eq_true] at hk16
    rw [hk16] at hlast
    simpa using hlast
theorem allV_n (n : Nat) (m : VMsg) : (allV n m).length = n := by simp [allV]
theorem allV_is {n : Nat} {m : VMsg} {p : Int × VMsg} (h : p ∈ allV n m) : p.2 = m := by
  simp only [allV, List.mem_map] at h
  obtain ⟨_, _, rfl⟩ := h
  rfl
theorem chiefR_o {n : Nat} (hn : n ≤ 8) {rs : List DRun} (h : RunsOK n rs) (m : VMsg) (f : Int) (hl : m.ls.length ≤ 100) : (chiefR n rs m f).o.length ≤ 8 ∧ ∀ p ∈ (chiefR n rs m f).o, p.2.ls.length ≤ 1000 ∧ p.2.ns.length ≤ 1000 := by
  have hall : ∀ v : VMsg, v.ls.length ≤ 1000 → v.ns.length ≤ 1000 → (allV n v).length ≤ 8 ∧ ∀ p ∈ allV n v, p.2.ls.length ≤ 1000 ∧ p.2.ns.length ≤ 1000 := fun v h1 h2 =>
    ⟨by rw [allV_n]; exact hn, fun p hp => by rw [allV_is hp]; exact ⟨h1, h2⟩⟩
  refine chiefR_cases (fun R => R.o.length ≤ 8 ∧ ∀ p ∈ R.o, p.2.ls.length ≤ 1000 ∧ p.2.ns.length ≤ 1000) ?_ ?_ ?_ ?_ ?_ ?_ ?_ ?_ ?_ ?_
  · intro e _; simp
  · intros; exact hall _ (by simp [askV]) (by simp [askV])
  · intros; simp
  · intros; exact hall _ (by simp [decV]) (by simp [decV])
  · intro d _ _ hd _ _ _ _ hf _ _
    have hb := ((h d (List.mem_of_getElem? hd)).offB (f := f.toNat) hf hl).both
    exact hall _ (by simp only [prepV]; omega) (by simp only [prepV, outs_len]; omega)
  · intros; exact hall _ (by simp [decV]) (by simp [decV])
  · intros; simp
  · intros; exact hall _ (by simp [decV]) (by simp [decV])
  · intros; exact hall _ (by simp [decV]) (by simp [decV])
  · intros; simp [decV]
end Go.Proofs.Ytdodgbhodkcckaa.Pv
end
section
set_option linter.unusedVariables false
set_option linter.unusedSimpArgs false
set_option autoImplicit false
set_option maxRecDepth 100000
namespace Go.Proofs.Ytdodgbhodkcckaa.Pv
open Go Go.RowKit
def vln : Line := ⟨0, 1, 1, 70⟩
end Go.Proofs.Ytdodgbhodkcckaa.Pv
end
section
set_option linter.unusedVariables false
set_option linter.unusedSimpArgs false
set_option autoImplicit false
set_option maxRecDepth 100000
namespace Go.Proofs.Ytdodgbhodkcckaa.Pv
open Go Go.RowKit
theorem sents_len (o : List (Int × VMsg)) : (sentsD o).length = o.length := by simp [sentsD]
theorem sents_get {o : List (Int × VMsg)} {j : Nat} {p : Int × VMsg} (h : o[j]? = some p) : (sentsD o)[j]? = some (.agg [I64 p.1, I64 p.2.kind, I64 p.2.seller, I64 p.2.number, I64 p.2.buyer, I64 p.2.currency, I64 p.2.round, I64 p.2.cycle, I64 p.2.amount, .v (.bool p.2.yes), .slc 4 (linesD p.2.ls), .slc 1 (p.2.ns.map I64)]) := by
  simp [sentsD, h, sentD, saidD, Msg.cells, VMsg.msg]
abbrev cellsD (to k c : Int) (y : Bool) (l n : List D) : D := .agg [I64 to, I64 k, I64 0, I64 0, I64 0, I64 0, I64 0, I64 c, I64 0, .v (.bool y), .slc 4 l, .slc 1 n]
def cd1 : DRun := ⟨0, 1, [true, false, false, false, false, false, false, false], List.replicate 8 false, [[vln], [], [], [], [], [], [], []], [], []⟩
def cd2 : DRun := ⟨0, 2, [true, true, false, false, false, false, false, false], List.replicate 8 false, [[vln], [vln], [], [], [], [], [], []], [vln], [70, -70]⟩
def cd3 : DRun := ⟨0, 2, [true, true, false, false, false, false, false, false], [false, true, false, false, false, false, false, false], [[vln], [vln], [], [], [], [], [], []], [vln], [70, -70]⟩
def cd4 : DRun := ⟨0, 3, [true, true, false, false, false, false, false, false], [true, true, false, false, false, false, false, false], [[vln], [vln], [], [], [], [], [], []], [vln], [70, -70]⟩
def stW : VMsg := ⟨5, 0, 0, 0, 0, 0, 0, 0, false, [], []⟩
def ofW : VMsg := ⟨11, 0, 0, 0, 0, 0, 1, 0, false, [vln], []⟩
def voW : VMsg := ⟨13, 0, 0, 0, 0, 0, 1, 0, true, [], []⟩
theorem cl1 : cOutD 2 (chiefR 2 [] stW (-1)) = .tup [.agg [I64 2, .slc 5 (runsC 2 [zeroR 0])], .slc 12 [cellsD 0 10 1 false [] [], cellsD 1 10 1 false [] []], I64 0] := by kernel_rfl
theorem cl2 : cOutD 2 (chiefR 2 [zeroR 0] ofW 0) = .tup [.agg [I64 2, .slc 5 (runsC 2 [cd1])], .slc 12 [], I64 0] := by kernel_rfl
theorem cl3 : cOutD 2 (chiefR 2 [cd1] ofW 1) = .tup [.agg [I64 2, .slc 5 (runsC 2 [cd2])], .slc 12 [cellsD 0 12 1 false (linesD [vln]) [I64 70, I64 (-70)], cellsD 1 12 1 false (linesD [vln]) [I64 70, I64 (-70)]], I64 0] := by kernel_rfl
theorem cl4 : cOutD 2 (chiefR 2 [cd2] voW 1) = .tup [.agg [I64 2, .slc 5 (runsC 2 [cd3])], .slc 12 [], I64 0] := by kernel_rfl
theorem cl5 : cOutD 2 (chiefR 2 [cd3] voW 0) = .tup [.agg [I64 2, .slc 5 (runsC 2 [cd4])], .slc 12 [cellsD 0 14 1 true [] [], cellsD 1 14 1 true [] []], I64 0] := by kernel_rfl
theorem cd_ok {d : DRun} (h : d ∈ [zeroR 0, cd1, cd2, cd3, cd4]) : RunsOK 2 [d] := by
  have hv : fitV 2 none [vln] = 0 := by kernel_rfl
  intro x hx
  obtain rfl : x = d := by simpa using hx
  simp only [List.mem_cons, List.not_mem_nil, or_false] at h
  rcases h with rfl | rfl | rfl | rfl | rfl
  · exact zeroR_ok 2 0
  all_goals
    refine ⟨rfl, rfl, rfl, by simp [cd1, cd2, cd3, cd4], fun o ho => ?_, by simp [cd1, cd2, cd3, cd4], by simp [cd1, cd2, cd3, cd4]⟩
    have h2 : o = [vln] ∨ o = [] := by simpa [cd1, cd2, cd3, cd4] using ho
    rcases h2 with rfl | rfl
    · exact ⟨hv, by simp⟩
    · exact ⟨rfl, by simp⟩
def L89 : St := ⟨[(1, .ref 13 0), (2, .d (.slc 12 [cellsD 0 10 1 false [] [], cellsD 1 10 1 false [] []])), (3, pint .i64 0), (4, .d (.slc 4 (linesD [vln])))], [(13, .box [.d (I64 2), .d (.slc 5 (runsC 2 [zeroR 0]))])], 80⟩
set_option maxHeartbeats 64000000 in
theorem run89 : Runs Try.prog 89 [] [] (pbool true) [] := by
  have r1 := run91 2 [] stW (-1) (by omega) (by simp [RunsOK]) (by simp) (by simp [stW])
  have r2 := run91 2 [zeroR 0] ofW 0 (by omega) (cd_ok (by simp)) (by simp) (by simp [ofW])
  have r3 := run91 2 [cd1] ofW 1 (by omega) (cd_ok (by simp)) (by simp) (by simp [ofW])
  have r4 := run91 2 [cd2] voW 1 (by omega) (cd_ok (by simp)) (by simp) (by simp [voW])
  have r5 := run91 2 [cd3] voW 0 (by omega) (cd_ok (by simp)) (by simp) (by simp [voW])
  have r94 := run94 2 [cd4] 1 (by omega) (cd_ok (by simp)) (by simp) rfl
  have r95 := run95 2 [cd4] (by simp)
  have hat : atR [cd4] 1 = cd4 := rfl
  have hw : (wtsR 0 [cd4]).map I64 = [] := by kernel_rfl
  rw [hat] at r94
  rw [hw] at r95
  rw [cl1] at r1
  rw [cl2] at r2
  rw [cl3] at r3
  rw [cl4] at r4
  rw [cl5] at r5
  unfold runP at r94
  have hst : cd4.st = 3 := rfl
  rw [hst] at r94
  unfold chD at *
  simp only [stW, ofW, voW, VMsg.msg, Msg.d, Msg.cells, List.map_nil] at r1 r2 r3 r4 r5
  have w00 : IntKind.wrap .i64 (0 + 0) = 0 := wrap_of (by omega) (by omega)
  refine Runs.of (kit Try.prog) Try.func89 rfl rfl (by rw [Try.ntmps89]; exact of_decide_eq_true rfl) ?_; rw [Try.ntmps89, Try.results89]
  repeat' (first|((first|refine goA rfl fun K hK=>?_|refine goB rfl fun K hK=>?_|refine goC rfl rfl fun K hK=>?_|refine goD rfl rfl fun K hK=>?_);simp (dsimp:=false) only [↓gq,↓stepP,↓stepG,go_sem])|refine Pwp.seq ?_|refine Pwp.block ?_|(refine Pwp.exit ?_;simp only [thenS,blockS,if_true,if_false,reduceIte,Nat.reduceEqDiff,Nat.add_one_ne_zero,reduceCtorEq])|(refine Pwp.skip ?_;simp only [thenS,blockS])|(refine Pwp.cond rfl True.intro (fun h=>?_) (fun h=>?_)<;>(try (cases h;done))<;>(try simp only [h]))|refine Pwp.ret ?_|(refine hK _ ?_;clear hK K)|(refine hK _ _ rfl ?_;clear hK K)|refine CallG.off ?_|with_reducible refine Or.inl ?_|simp only [thenS,blockS]|with_reducible refine And.intro ?_ ?_|with_reducible exact True.intro|simp (dsimp:=false) only [↓gq,↓stepP,↓stepG,go_sem])
  all_goals (try (first|(intro hg;simp [hg];done)|exact of_decide_eq_true rfl|(cases h;done)))
  repeat' (first|(refine hK _ ?_;clear hK K)|(refine hK _ _ rfl ?_;clear hK K)|(refine CallK.giveS (ds:=[.agg [I64 2, nilD], .agg [I64 5, I64 0, I64 0, I64 0, I64 0, I64 0, I64 0, I64 0, .v (.bool false), nilD, nilD], I64 (-1)]) (es:=[.agg [I64 2, .slc 5 (runsC 2 [])], .agg [I64 5, I64 0, I64 0, I64 0, I64 0, I64 0, I64 0, I64 0, .v (.bool false), .slc 4 (linesD []), .slc 1 []], I64 (-1)]) rfl (by simp [subL, subD, subV, subD_refl, linesD, runsC]) r1 (by simp) ?_)|refine CallG.off ?_|with_reducible refine Or.inl ?_|with_reducible refine And.intro ?_ ?_|with_reducible exact True.intro|simp (dsimp:=false) only [↓gq,↓stepP,↓stepG,go_sem])
  all_goals (try (first|(intro hg;simp [hg];done)|exact of_decide_eq_true rfl|(cases h;done)))
  (repeat' (first|refine Pwp.seq ?_|refine Pwp.block ?_)); ((first|refine goA rfl fun K hK=>?_|refine goB rfl fun K hK=>?_|refine goC rfl rfl fun K hK=>?_|refine goD rfl rfl fun K hK=>?_);simp (dsimp:=false) only [↓gq,↓stepP,↓stepG,go_sem])
  repeat' (first|(refine hK _ ?_;clear hK K)|(refine hK _ _ rfl ?_;clear hK K)|refine CallG.off ?_|with_reducible refine Or.inl ?_|with_reducible refine And.intro ?_ ?_|with_reducible exact True.intro|simp (dsimp:=false) only [↓gq,↓stepP,↓stepG,go_sem])
  all_goals (try (first|(intro hg;simp [hg];done)|exact of_decide_eq_true rfl|(cases h;done)))
  simp only [thenS]
  refine Pwp.sub (Sub.view (t := L89) V0 (by simp [L89]) rfl (by simp [L89,linesD,vln,Line.d,Line.cells]) (by simp [L89,linesD,vln,Line.d,Line.cells])) ?_
  unfold L89
  repeat' (first|((first|refine goA rfl fun K hK=>?_|refine goB rfl fun K hK=>?_|refine goC rfl rfl fun K hK=>?_|refine goD rfl rfl fun K hK=>?_);simp (dsimp:=false) only [↓gq,↓stepP,↓stepG,go_sem,w00,beq_self_eq_true,Bool.and_self])|refine Pwp.seq ?_|refine Pwp.block ?_|(refine Pwp.exit ?_;simp only [thenS,blockS,if_true,if_false,reduceIte,Nat.reduceEqDiff,Nat.add_one_ne_zero,reduceCtorEq])|(refine Pwp.skip ?_;simp only [thenS,blockS])|(refine Pwp.cond rfl True.intro (fun h=>?_) (fun h=>?_)<;>(try (cases h;done))<;>(try simp only [h]))|refine Pwp.ret ?_|(refine hK _ ?_;clear hK K)|(refine hK _ _ rfl ?_;clear hK K)|(refine CallK.giveS (ds:=[.agg [I64 2, .slc 5 (runsC 2 [zeroR 0])], .agg [I64 11, I64 0, I64 0, I64 0, I64 0, I64 0, I64 1, I64 0, .v (.bool false), .slc 4 (linesD [vln]), nilD], I64 0]) (es:=[.agg [I64 2, .slc 5 (runsC 2 [zeroR 0])], .agg [I64 11, I64 0, I64 0, I64 0, I64 0, I64 0, I64 1, I64 0, .v (.bool false), .slc 4 (linesD [vln]), .slc 1 []], I64 0]) rfl (by simp [subL, subD, subV, subD_refl, linesD]) r2 (by simp) ?_)|(refine CallK.giveS (ds:=[.agg [I64 2, .slc 5 (runsC 2 [cd1])], .agg [I64 11, I64 0, I64 0, I64 0, I64 0, I64 0, I64 1, I64 0, .v (.bool false), .slc 4 (linesD [vln]), nilD], I64 1]) (es:=[.agg [I64 2, .slc 5 (runsC 2 [cd1])], .agg [I64 11, I64 0, I64 0, I64 0, I64 0, I64 0, I64 1, I64 0, .v (.bool false), .slc 4 (linesD [vln]), .slc 1 []], I64 1]) rfl (by simp [subL, subD, subV, subD_refl, linesD]) r3 (by simp) ?_)|(refine CallK.giveS (ds:=[.agg [I64 2, .slc 5 (runsC 2 [cd2])], .agg [I64 13, I64 0, I64 0, I64 0, I64 0, I64 0, I64 1, I64 0, .v (.bool true), nilD, nilD], I64 1]) (es:=[.agg [I64 2, .slc 5 (runsC 2 [cd2])], .agg [I64 13, I64 0, I64 0, I64 0, I64 0, I64 0, I64 1, I64 0, .v (.bool true), .slc 4 (linesD []), .slc 1 []], I64 1]) rfl (by simp [subL, subD, subV, subD_refl, linesD]) r4 (by simp) ?_)|(refine CallK.giveS (ds:=[.agg [I64 2, .slc 5 (runsC 2 [cd3])], .agg [I64 13, I64 0, I64 0, I64 0, I64 0, I64 0, I64 1, I64 0, .v (.bool true), nilD, nilD], I64 0]) (es:=[.agg [I64 2, .slc 5 (runsC 2 [cd3])], .agg [I64 13, I64 0, I64 0, I64 0, I64 0, I64 0, I64 1, I64 0, .v (.bool true), .slc 4 (linesD []), .slc 1 []], I64 0]) rfl (by simp [subL, subD, subV, subD_refl, linesD]) r5 (by simp) ?_)|(refine CallG.toI (ds:=[.agg [I64 2, .slc 5 (runsC 2 [cd4])]]) rfl rfl r95 ?_ ?_)|(refine CallK.give (ds:=[.agg [I64 2, .slc 5 (runsC 2 [cd4])], I64 1]) rfl (r94) (by simp) ?_)|refine CallG.off ?_|with_reducible refine Or.inl ?_|simp only [thenS,blockS]|with_reducible refine And.intro ?_ ?_|with_reducible exact True.intro|simp (dsimp:=false) only [↓gq,↓stepP,↓stepG,go_sem,w00,beq_self_eq_true,Bool.and_self])
  all_goals (try (first|(intro hg;simp [hg];done)|exact of_decide_eq_true rfl|(cases h;done)))
  (refine Fin.data (.inr rfl) (by simp (dsimp:=false) only [↓gq,↓stepP,↓stepG,go_sem,resL]; rfl) (by simp only [and_self]) (by simp (dsimp:=false) only [↓gq,↓stepP,↓stepG,go_sem,resP,Nat.le_refl,List.take_length]; try rfl) ?_)
  exact subD_refl _
end Go.Proofs.Ytdodgbhodkcckaa.Pv
end
section
set_option linter.unusedVariables false
set_option autoImplicit false
namespace Go.Proofs.Ytdodgbhodkcckaa.Pv
open Go Go.RowKit
theorem lit_inV {n : Int} (h : (Lit.int .i64 n).wf = true) : In64 n := by
  simp only [Lit.wf, Bool.and_eq_true, decide_eq_true_eq] at h
  exact h
abbrev lineVL : List CL := [.int .i64, .int .i64, .int .i64, .int .i64]
abbrev wordVL : List CL := [.int .i64, .int .i64, .int .i64, .int .i64, .int .i64, .int .i64, .int .i64, .int .i64, .int .i64, .bool, .slc true lineVL, .slc false [.int .i64]]
theorem lineV_of {ds : List D} (h : okL lineVL ds) : ∃ x : Line, ds = x.cells ∧ In64 x.number := by
  simp only [okL, okD] at h
  obtain ⟨_, _, rfl, ⟨a, rfl, ha⟩, _, _, rfl, ⟨b, rfl, hb⟩, _, _, rfl, ⟨c, rfl, hc⟩, _, _, rfl, ⟨d, rfl, hd⟩, rfl⟩ := h
  exact ⟨⟨a, b, c, d⟩, rfl, lit_inV hb⟩
theorem linesV_of {d : D} (h : okD (.slc true lineVL) d) : ∃ l : List Line, d = .slc 4 (linesD l) ∧ ∀ x ∈ l, In64 x.number := by
  simp only [okD] at h
  obtain ⟨els, rfl, _, h⟩ := h
  obtain ⟨l, rfl, hl⟩ := els_of Line.d (fun x => In64 x.number) (els := els) fun el he => by
    obtain ⟨ds, rfl, h2⟩ := h el he
    obtain ⟨x, rfl, hx⟩ := lineV_of h2
    exact ⟨x, rfl, hx⟩
  exact ⟨l, by simp [linesD], hl⟩
theorem numsV_of {d : D} (h : okD (.slc false [.int .i64]) d) : ∃ l : List Int, d = .slc 1 (l.map I64) := by
  simp only [okD] at h
  obtain ⟨els, rfl, _, h⟩ := h
  obtain ⟨l, rfl, _⟩ := els_of I64 (fun _ => True) (els := els) fun el he => by
    obtain ⟨ds, rfl, h2⟩ := h el he
    simp only [okL, okD] at h2
    obtain ⟨_, _, rfl, ⟨a, rfl, _⟩, rfl⟩ := h2
    exact ⟨a, rfl, True.intro⟩
  exact ⟨l, rfl⟩
structure OkVW (w : VW) : Prop where
  cy : In64 w.m.cycle
  ln : ∀ x ∈ w.m.ls, In64 x.number
theorem wordV_of {ds : List D} (h : okL wordVL ds) : ∃ w : VW, ds = I64 w.from' :: w.m.msg.cells ∧ OkVW w := by
  rw [okL] at h
  obtain ⟨_, _, rfl, h0, h⟩ := h
  rw [okL] at h; obtain ⟨_, _, rfl, h1, h⟩ := h
  rw [okL] at h; obtain ⟨_, _, rfl, h2, h⟩ := h
  rw [okL] at h; obtain ⟨_, _, rfl, h3, h⟩ := h
  rw [okL] at h; obtain ⟨_, _, rfl, h4, h⟩ := h
  rw [okL] at h; obtain ⟨_, _, rfl, h5, h⟩ := h
  rw [okL] at h; obtain ⟨_, _, rfl, h6, h⟩ := h
  rw [okL] at h; obtain ⟨_, _, rfl, h7, h⟩ := h
  rw [okL] at h; obtain ⟨_, _, rfl, h8, h⟩ := h
  rw [okL] at h; obtain ⟨_, _, rfl, h9, h⟩ := h
  rw [okL] at h; obtain ⟨_, _, rfl, ha, h⟩ := h
  rw [okL] at h; obtain ⟨_, _, rfl, hb, h⟩ := h
  rw [okL] at h; subst h
  obtain ⟨ls, rfl, hls⟩ := linesV_of ha
  obtain ⟨ns, rfl⟩ := numsV_of hb
  simp only [okD] at h0 h1 h2 h3 h4 h5 h6 h7 h8 h9
  obtain ⟨a0, rfl, _⟩ := h0
  obtain ⟨a1, rfl, _⟩ := h1
  obtain ⟨a2, rfl, _⟩ := h2
  obtain ⟨a3, rfl, _⟩ := h3
  obtain ⟨a4, rfl, _⟩ := h4
  obtain ⟨a5, rfl, _⟩ := h5
  obtain ⟨a6, rfl, _⟩ := h6
  obtain ⟨a7, rfl, k7⟩ := h7
  obtain ⟨a8, rfl, _⟩ := h8
  obtain ⟨a9, rfl⟩ := h9
  exact ⟨⟨a0, ⟨a1, a2, a3, a4, a5, a6, a7, a8, a9, ls, ns⟩⟩, rfl, lit_inV k7, hls⟩
theorem wordsV_of {d : D} (h : okD (.slc true wordVL) d) : ∃ ws : List VW, d = .slc 12 (vwsD ws) ∧ ∀ w ∈ ws, OkVW w := by
  rw [okD] at h
  obtain ⟨els, rfl, _, h⟩ := h
  obtain ⟨l, rfl, hl⟩ := els_of VW.d OkVW (els := els) fun el he => by
    obtain ⟨ds, rfl, h2⟩ := h el he
    obtain ⟨x, rfl, hx⟩ := wordV_of h2
    exact ⟨x, rfl, hx⟩
  exact ⟨l, rfl, hl⟩
end Go.Proofs.Ytdodgbhodkcckaa.Pv
end
