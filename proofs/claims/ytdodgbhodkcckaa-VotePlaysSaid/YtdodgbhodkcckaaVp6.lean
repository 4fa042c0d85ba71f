/- A part of the proof: the machine of plain values and walks of functions. -/
import Derived.Test.YtdodgbhodkcckaaVp5
section
set_option linter.unusedVariables false
set_option linter.unusedSimpArgs false
set_option autoImplicit false
set_option maxRecDepth 100000
namespace Go.Proofs.Ytdodgbhodkcckaa.Pv
open Go Go.RowKit
set_option maxHeartbeats 64000000 in
theorem run71c (q : VP) (l w : List Item) (m : VMsg) (f : Int) (hq : q.list.length ≤ 10000) (hb : refBad m f = false) (hc : (f != -1 && f != q.n) = false) (hk : (m.kind == 10) = false) (hk2 : (m.kind == 12) = false) {k : Nat} {z : Part} (hf : fndC m.cycle 0 q.list = (k : Int)) (hz : q.list[k]? = some z)
    (h : refLate q m = true ∨ (m.kind == 16) = true) : Runs Try.prog 71 [.d q.dN, .d (rdD w).d, .d m.msg.d, pint .i64 f] [] (.d (rvD (refDo q l w m f))) [] := by
  have r127 := run127 q m.cycle (by omega)
  rw [hf] at r127
  have e1 : ∀ r : ROutV, rvD r = .tup [r.q.dN, (rdD r.w).d, .slc 12 r.o.toList, I64 r.e] := fun _ => rfl
  have cm : decide ((k : Int) < 0) = false := decide_eq_false (by omega)
  have hg := partsN_get hz
  have hp : partAt q m.cycle = z := by unfold partAt; rw [hf, Int.toNat_natCast, hz]; rfl
  unfold refDo
  rw [hb, hc, hk, hk2, hf, cm, if_neg (by simp), if_neg (by simp), if_neg (by simp), if_neg (by simp), if_neg (by simp)]
  have hl2 := h
  unfold refLate at hl2 ⊢
  rw [hp] at hl2 ⊢
  obtain ⟨zc, zu, zs, zl⟩ := z
  simp only at hl2 hg ⊢
  unfold refBad at hb
  cases hlt : (decide (3 < zs) || ((m.kind == 14 && m.yes) && zs != 2)) with
  | true =>
    rw [if_pos rfl, e1]
    unfold VP.dN rdD RDesk.d RDesk.cells VMsg.msg Msg.d Msg.cells at *
    cases zl
    · unfold linesN at hg
      refine Runs.of (kit Try.prog) Try.func71 rfl rfl (by rw [Try.ntmps71]; exact of_decide_eq_true rfl) ?_; rw [Try.ntmps71, Try.results71]
      repeat' (first|((first|refine goA rfl fun K hK=>?_|refine goB rfl fun K hK=>?_|refine goC rfl rfl fun K hK=>?_|refine goD rfl rfl fun K hK=>?_);simp (dsimp:=false) only [↓gq,↓stepP,↓stepG,go_sem,hb,hc,hk,hk2,cm,hg,hlt])|refine Pwp.seq ?_|refine Pwp.block ?_|(refine Pwp.exit ?_;simp only [thenS,blockS,if_true,if_false,reduceIte,Nat.reduceEqDiff,Nat.add_one_ne_zero,reduceCtorEq])|(refine Pwp.skip ?_;simp only [thenS,blockS])|(refine Pwp.cond rfl True.intro (fun h=>?_) (fun h=>?_)<;>(try (cases h;done))<;>(try simp only [h]))|refine Pwp.ret ?_|(refine hK _ ?_;clear hK K)|(refine hK _ _ rfl ?_;clear hK K)|(refine CallK.toD (ds:=[.agg [I64 q.me, I64 q.n, .slc 4 (partsN q.list)], I64 m.cycle]) rfl (r127) rfl ?_)|refine CallG.off ?_|with_reducible refine Or.inl ?_|simp only [thenS,blockS]|with_reducible refine And.intro ?_ ?_|with_reducible exact True.intro|simp (dsimp:=false) only [↓gq,↓stepP,↓stepG,go_sem,hb,hc,hk,hk2,cm,hg,hlt])
      all_goals (try (first|(intro hg;simp [hg];done)|exact of_decide_eq_true rfl|(cases h;done)))
      all_goals (try (intro hg; simp only [hg, Bool.not_false, Bool.not_true, Bool.and_self, Bool.true_and, Bool.and_true, true_and, and_self, imp_self, implies_true]; done))
      (refine Fin.data (.inr rfl) (by simp (dsimp:=false) only [↓gq,↓stepP,↓stepG,go_sem,resL]; rfl) (by simp only [and_self]) (by simp (dsimp:=false) only [↓gq,↓stepP,↓stepG,go_sem,resP,Nat.le_refl,List.take_length]; try rfl) ?_)
      simp [subD, subL, subV, subD_refl]
    · unfold linesN at hg
      refine Runs.of (kit Try.prog) Try.func71 rfl rfl (by rw [Try.ntmps71]; exact of_decide_eq_true rfl) ?_; rw [Try.ntmps71, Try.results71]
      repeat' (first|((first|refine goA rfl fun K hK=>?_|refine goB rfl fun K hK=>?_|refine goC rfl rfl fun K hK=>?_|refine goD rfl rfl fun K hK=>?_);simp (dsimp:=false) only [↓gq,↓stepP,↓stepG,go_sem,hb,hc,hk,hk2,cm,hg,hlt])|refine Pwp.seq ?_|refine Pwp.block ?_|(refine Pwp.exit ?_;simp only [thenS,blockS,if_true,if_false,reduceIte,Nat.reduceEqDiff,Nat.add_one_ne_zero,reduceCtorEq])|(refine Pwp.skip ?_;simp only [thenS,blockS])|(refine Pwp.cond rfl True.intro (fun h=>?_) (fun h=>?_)<;>(try (cases h;done))<;>(try simp only [h]))|refine Pwp.ret ?_|(refine hK _ ?_;clear hK K)|(refine hK _ _ rfl ?_;clear hK K)|(refine CallK.toD (ds:=[.agg [I64 q.me, I64 q.n, .slc 4 (partsN q.list)], I64 m.cycle]) rfl (r127) rfl ?_)|refine CallG.off ?_|with_reducible refine Or.inl ?_|simp only [thenS,blockS]|with_reducible refine And.intro ?_ ?_|with_reducible exact True.intro|simp (dsimp:=false) only [↓gq,↓stepP,↓stepG,go_sem,hb,hc,hk,hk2,cm,hg,hlt])
      all_goals (try (first|(intro hg;simp [hg];done)|exact of_decide_eq_true rfl|(cases h;done)))
      all_goals (try (intro hg; simp only [hg, Bool.not_false, Bool.not_true, Bool.and_self, Bool.true_and, Bool.and_true, true_and, and_self, imp_self, implies_true]; done))
      (refine Fin.data (.inr rfl) (by simp (dsimp:=false) only [↓gq,↓stepP,↓stepG,go_sem,resL]; rfl) (by simp only [and_self]) (by simp (dsimp:=false) only [↓gq,↓stepP,↓stepG,go_sem,resP,Nat.le_refl,List.take_length]; try rfl) ?_)
      simp [subD, subL, subV, subD_refl]
  | false =>
    have h16 : (m.kind == 16) = true := by
      rcases hl2 with h | h
      · rw [hlt] at h; cases h
      · exact h
    rw [if_neg (by simp), if_pos h16, e1]
    rw [h16] at hb
    unfold queryM saidD Msg.cells
    unfold VP.dN rdD RDesk.d RDesk.cells VMsg.msg Msg.d Msg.cells at *
    cases zl
    · unfold linesN at hg
      refine Runs.of (kit Try.prog) Try.func71 rfl rfl (by rw [Try.ntmps71]; exact of_decide_eq_true rfl) ?_; rw [Try.ntmps71, Try.results71]
      repeat' (first|((first|refine goA rfl fun K hK=>?_|refine goB rfl fun K hK=>?_|refine goC rfl rfl fun K hK=>?_|refine goD rfl rfl fun K hK=>?_);simp (dsimp:=false) only [↓gq,↓stepP,↓stepG,go_sem,hb,hc,hk,hk2,cm,hg,hlt,h16])|refine Pwp.seq ?_|refine Pwp.block ?_|(refine Pwp.exit ?_;simp only [thenS,blockS,if_true,if_false,reduceIte,Nat.reduceEqDiff,Nat.add_one_ne_zero,reduceCtorEq])|(refine Pwp.skip ?_;simp only [thenS,blockS])|(refine Pwp.cond rfl True.intro (fun h=>?_) (fun h=>?_)<;>(try (cases h;done))<;>(try simp only [h]))|refine Pwp.ret ?_|(refine hK _ ?_;clear hK K)|(refine hK _ _ rfl ?_;clear hK K)|(refine CallK.toD (ds:=[.agg [I64 q.me, I64 q.n, .slc 4 (partsN q.list)], I64 m.cycle]) rfl (r127) rfl ?_)|refine CallG.off ?_|with_reducible refine Or.inl ?_|simp only [thenS,blockS]|with_reducible refine And.intro ?_ ?_|with_reducible exact True.intro|simp (dsimp:=false) only [↓gq,↓stepP,↓stepG,go_sem,hb,hc,hk,hk2,cm,hg,hlt,h16])
      all_goals (try (first|(intro hg;simp [hg];done)|exact of_decide_eq_true rfl|(cases h;done)))
      all_goals (try (intro hg; simp only [hg, Bool.not_false, Bool.not_true, Bool.and_self, Bool.true_and, Bool.and_true, true_and, and_self, imp_self, implies_true]; done))
      (refine Fin.data (.inr rfl) (by simp (dsimp:=false) only [↓gq,↓stepP,↓stepG,go_sem,resL]; rfl) (by simp only [and_self]) (by simp (dsimp:=false) only [↓gq,↓stepP,↓stepG,go_sem,resP,Nat.le_refl,List.take_length]; try rfl) ?_)
      simp [subD, subL, subV, subD_refl]
    · unfold linesN at hg
      refine Runs.of (kit Try.prog) Try.func71 rfl rfl (by rw [Try.ntmps71]; exact of_decide_eq_true rfl) ?_; rw [Try.ntmps71, Try.results71]
      repeat' (first|((first|refine goA rfl fun K hK=>?_|refine goB rfl fun K hK=>?_|refine goC rfl rfl fun K hK=>?_|refine goD rfl rfl fun K hK=>?_);simp (dsimp:=false) only [↓gq,↓stepP,↓stepG,go_sem,hb,hc,hk,hk2,cm,hg,hlt,h16])|refine Pwp.seq ?_|refine Pwp.block ?_|(refine Pwp.exit ?_;simp only [thenS,blockS,if_true,if_false,reduceIte,Nat.reduceEqDiff,Nat.add_one_ne_zero,reduceCtorEq])|(refine Pwp.skip ?_;simp only [thenS,blockS])|(refine Pwp.cond rfl True.intro (fun h=>?_) (fun h=>?_)<;>(try (cases h;done))<;>(try simp only [h]))|refine Pwp.ret ?_|(refine hK _ ?_;clear hK K)|(refine hK _ _ rfl ?_;clear hK K)|(refine CallK.toD (ds:=[.agg [I64 q.me, I64 q.n, .slc 4 (partsN q.list)], I64 m.cycle]) rfl (r127) rfl ?_)|refine CallG.off ?_|with_reducible refine Or.inl ?_|simp only [thenS,blockS]|with_reducible refine And.intro ?_ ?_|with_reducible exact True.intro|simp (dsimp:=false) only [↓gq,↓stepP,↓stepG,go_sem,hb,hc,hk,hk2,cm,hg,hlt,h16])
      all_goals (try (first|(intro hg;simp [hg];done)|exact of_decide_eq_true rfl|(cases h;done)))
      all_goals (try (intro hg; simp only [hg, Bool.not_false, Bool.not_true, Bool.and_self, Bool.true_and, Bool.and_true, true_and, and_self, imp_self, implies_true]; done))
      (refine Fin.data (.inr rfl) (by simp (dsimp:=false) only [↓gq,↓stepP,↓stepG,go_sem,resL]; rfl) (by simp only [and_self]) (by simp (dsimp:=false) only [↓gq,↓stepP,↓stepG,go_sem,resP,Nat.le_refl,List.take_length]; try rfl) ?_)
      simp [subD, subL, subV, subD_refl]
end Go.Proofs.Ytdodgbhodkcckaa.Pv
end
section
set_option linter.unusedVariables false
set_option linter.unusedSimpArgs false
set_option autoImplicit false
set_option maxRecDepth 100000
namespace Go.Proofs.Ytdodgbhodkcckaa.Pv
open Go Go.RowKit
def L71n (q : VP) (w : List Item) (m : VMsg) (zc zu : Int) (i : Nat) : St :=
  ⟨[(15, pint .i64 i), (14, pbool true), (13, .ref 217 0), (9, .ref 12 0), (8, .ref 11 0), (6, .ref 10 0), (5, .ref 9 0), (4, .ref 8 0)],
   [(8, boxQ q), (9, boxR w), (10, boxV m), (11, .box [.d (I64 0), .d (I64 0), .d nilD]), (12, .box [.d (I64 0), .d (I64 0), .d nilD, .d nilD]), (217, .box [.d (I64 zc), .d (I64 zu), .d (I64 2), .d nilD])], 308⟩
def L71o (q : VP) (w : List Item) (m : VMsg) (zc zu : Int) (i : Nat) : St :=
  ⟨[(15, pint .i64 i), (14, pbool true), (13, .ref 217 0), (9, .ref 12 0), (8, .ref 11 0), (6, .ref 10 0), (5, .ref 9 0), (4, .ref 8 0)],
   [(8, boxQ q), (9, boxR w), (10, boxV m), (11, .box [.d (I64 0), .d (I64 0), .d nilD]), (12, .box [.d (I64 0), .d (I64 0), .d nilD, .d nilD]), (217, .box [.d (I64 zc), .d (I64 zu), .d (I64 2), .own 60 0 4 0 (mineL q.me (m.ls.take i)).length]),
    (60, .arr 142 4 0 none (linesD (mineL q.me (m.ls.take i))))], 308⟩
theorem linesN_some {l : List Line} (h : l ≠ []) : linesN l = .slc 4 (linesD l) := by
  cases l with
  | nil => exact absurd rfl h
  | cons y ys => rfl
theorem mine_none {me : Int} {ls : List Line} (h : mineL me ls = []) {x : Line} (hx : x ∈ ls) : notMine me x = true := by
  cases hn : notMine me x with
  | true => rfl
  | false =>
    have : x ∈ mineL me ls := by unfold mineL; rw [List.mem_filter]; exact ⟨hx, by simp [hn]⟩
    rw [h] at this; cases this
set_option maxHeartbeats 64000000 in
theorem run71d (q : VP) (me : Int) (l w : List Item) (m : VMsg) (f : Int) (hR : RelI me l w) (hw : w.length ≤ 10000) (hq : q.list.length ≤ 10000) (hls : m.ls.length ≤ 1000) (hns : m.ns.length ≤ 1000) (hin : ∀ x ∈ m.ls, In64 x.number)
    (hb : refBad m f = false) (hc : (f != -1 && f != q.n) = false) (hk2 : (m.kind == 12) = true) {k : Nat} {z : Part} (hf : fndC m.cycle 0 q.list = (k : Int)) (hz : q.list[k]? = some z) (hone : z.state = 1 → z.lines = []) (hzc : z.cycle = m.cycle) :
    Runs Try.prog 71 [.d q.dN, .d (rdD w).d, .d m.msg.d, pint .i64 f] [] (.d (rvD (refDo q l w m f))) [] := by
  have r127 := run127 q m.cycle (by omega)
  have r128 := run128 q q rfl rfl me l w m hR hw hls hns hin
  rw [hf] at r127
  have e1 : ∀ r : ROutV, rvD r = .tup [r.q.dN, (rdD r.w).d, .slc 12 r.o.toList, I64 r.e] := fun _ => rfl
  have cm : decide ((k : Int) < 0) = false := decide_eq_false (by omega)
  have hg := partsN_get hz
  have hp : partAt q m.cycle = z := by unfold partAt; rw [hf, Int.toNat_natCast, hz]; rfl
  have hk : (m.kind == 10) = false := by simp only [beq_iff_eq] at hk2; rw [hk2]; rfl
  have hll := lines_len m.ls
  unfold refDo
  rw [hb, hc, hk, hk2, hf, cm, hp, if_neg (by simp), if_neg (by simp), if_neg (by simp), if_neg (by simp), if_pos rfl]
  obtain ⟨zc, zu, zs, zl⟩ := z
  simp only at hone hg hzc ⊢
  subst hzc
  unfold refBad at hb
  cases hst : (zs != 1) with
  | true =>
    rw [if_pos rfl, e1]
    unfold VP.dN rdD RDesk.d RDesk.cells VMsg.msg Msg.d Msg.cells at *
    cases zl
    · unfold linesN at hg
      refine Runs.of (kit Try.prog) Try.func71 rfl rfl (by rw [Try.ntmps71]; exact of_decide_eq_true rfl) ?_; rw [Try.ntmps71, Try.results71]
      repeat' (first|((first|refine goA rfl fun K hK=>?_|refine goB rfl fun K hK=>?_|refine goC rfl rfl fun K hK=>?_|refine goD rfl rfl fun K hK=>?_);simp (dsimp:=false) only [↓gq,↓stepP,↓stepG,go_sem,hb,hc,hk,hk2,cm,hg,hst])|refine Pwp.seq ?_|refine Pwp.block ?_|(refine Pwp.exit ?_;simp only [thenS,blockS,if_true,if_false,reduceIte,Nat.reduceEqDiff,Nat.add_one_ne_zero,reduceCtorEq])|(refine Pwp.skip ?_;simp only [thenS,blockS])|(refine Pwp.cond rfl True.intro (fun h=>?_) (fun h=>?_)<;>(try (cases h;done))<;>(try simp only [h]))|refine Pwp.ret ?_|(refine hK _ ?_;clear hK K)|(refine hK _ _ rfl ?_;clear hK K)|(refine CallK.toD (ds:=[.agg [I64 q.me, I64 q.n, .slc 4 (partsN q.list)], I64 m.cycle]) rfl (r127) rfl ?_)|refine CallG.off ?_|with_reducible refine Or.inl ?_|simp only [thenS,blockS]|with_reducible refine And.intro ?_ ?_|with_reducible exact True.intro|simp (dsimp:=false) only [↓gq,↓stepP,↓stepG,go_sem,hb,hc,hk,hk2,cm,hg,hst])
      all_goals (try (first|(intro hg;simp [hg];done)|exact of_decide_eq_true rfl|(cases h;done)))
      all_goals (try (intro hg; simp only [hg, Bool.not_false, Bool.not_true, Bool.and_self, Bool.true_and, Bool.and_true, true_and, and_self, imp_self, implies_true]; done))
      (refine Fin.data (.inr rfl) (by simp (dsimp:=false) only [↓gq,↓stepP,↓stepG,go_sem,resL]; rfl) (by simp only [and_self]) (by simp (dsimp:=false) only [↓gq,↓stepP,↓stepG,go_sem,resP,Nat.le_refl,List.take_length]; try rfl) ?_)
      simp [subD, subL, subV, subD_refl]
    · unfold linesN at hg
      refine Runs.of (kit Try.prog) Try.func71 rfl rfl (by rw [Try.ntmps71]; exact of_decide_eq_true rfl) ?_; rw [Try.ntmps71, Try.results71]
      repeat' (first|((first|refine goA rfl fun K hK=>?_|refine goB rfl fun K hK=>?_|refine goC rfl rfl fun K hK=>?_|refine goD rfl rfl fun K hK=>?_);simp (dsimp:=false) only [↓gq,↓stepP,↓stepG,go_sem,hb,hc,hk,hk2,cm,hg,hst])|refine Pwp.seq ?_|refine Pwp.block ?_|(refine Pwp.exit ?_;simp only [thenS,blockS,if_true,if_false,reduceIte,Nat.reduceEqDiff,Nat.add_one_ne_zero,reduceCtorEq])|(refine Pwp.skip ?_;simp only [thenS,blockS])|(refine Pwp.cond rfl True.intro (fun h=>?_) (fun h=>?_)<;>(try (cases h;done))<;>(try simp only [h]))|refine Pwp.ret ?_|(refine hK _ ?_;clear hK K)|(refine hK _ _ rfl ?_;clear hK K)|(refine CallK.toD (ds:=[.agg [I64 q.me, I64 q.n, .slc 4 (partsN q.list)], I64 m.cycle]) rfl (r127) rfl ?_)|refine CallG.off ?_|with_reducible refine Or.inl ?_|simp only [thenS,blockS]|with_reducible refine And.intro ?_ ?_|with_reducible exact True.intro|simp (dsimp:=false) only [↓gq,↓stepP,↓stepG,go_sem,hb,hc,hk,hk2,cm,hg,hst])
      all_goals (try (first|(intro hg;simp [hg];done)|exact of_decide_eq_true rfl|(cases h;done)))
      all_goals (try (intro hg; simp only [hg, Bool.not_false, Bool.not_true, Bool.and_self, Bool.true_and, Bool.and_true, true_and, and_self, imp_self, implies_true]; done))
      (refine Fin.data (.inr rfl) (by simp (dsimp:=false) only [↓gq,↓stepP,↓stepG,go_sem,resL]; rfl) (by simp only [and_self]) (by simp (dsimp:=false) only [↓gq,↓stepP,↓stepG,go_sem,resP,Nat.le_refl,List.take_length]; try rfl) ?_)
      simp [subD, subL, subV, subD_refl]
  | false =>
    rw [if_neg (by simp)]
    obtain rfl := hone (by simpa using hst)
    have hmt : ∀ i, (mineL q.me (m.ls.take i)).length ≤ 1000 := fun i => by
      have h1 := List.length_filter_le (fun x => !notMine q.me x) (m.ls.take i)
      rw [List.length_take] at h1
      unfold mineL; omega
    cases hr : rightR q l m.cycle m.ls m.ns with
    | false =>
      rw [hr] at r128
      rw [if_neg (by simp), e1]
      have r129 := run129 q ⟨m.cycle, zu, 3, []⟩ (by omega)
      unfold Part.cellsN linesN at r129
      unfold voteM saidD Msg.cells
      unfold VP.dN rdD RDesk.d RDesk.cells VMsg.msg Msg.d Msg.cells at *
      unfold linesN at hg
      refine Runs.of (kit Try.prog) Try.func71 rfl rfl (by rw [Try.ntmps71]; exact of_decide_eq_true rfl) ?_; rw [Try.ntmps71, Try.results71]
      repeat' (first|((first|refine goA rfl fun K hK=>?_|refine goB rfl fun K hK=>?_|refine goC rfl rfl fun K hK=>?_|refine goD rfl rfl fun K hK=>?_);simp (dsimp:=false) only [↓gq,↓stepP,↓stepG,go_sem,hb,hc,hk,hk2,cm,hg,hst])|refine Pwp.seq ?_|refine Pwp.block ?_|(refine Pwp.exit ?_;simp only [thenS,blockS,if_true,if_false,reduceIte,Nat.reduceEqDiff,Nat.add_one_ne_zero,reduceCtorEq])|(refine Pwp.skip ?_;simp only [thenS,blockS])|(refine Pwp.cond rfl True.intro (fun h=>?_) (fun h=>?_)<;>(try (cases h;done))<;>(try simp only [h]))|refine Pwp.ret ?_|(refine hK _ ?_;clear hK K)|(refine hK _ _ rfl ?_;clear hK K)|(refine CallK.toD (ds:=[.agg [I64 q.me, I64 q.n, .slc 4 (partsN q.list)], I64 m.cycle]) rfl (r127) rfl ?_)|(refine CallK.toD (ds:=[.agg [I64 q.me, I64 q.n, .slc 4 (partsN q.list)], .agg [I64 0, I64 0, .slc 8 (itemsD w), .slc 3 (ordersD [])], .agg [I64 m.kind, I64 m.seller, I64 m.number, I64 m.buyer, I64 m.currency, I64 m.round, I64 m.cycle, I64 m.amount, .v (.bool m.yes), .slc 4 (linesD m.ls), .slc 1 (m.ns.map I64)]]) rfl (r128) rfl ?_)|(refine CallK.give (ds:=[.agg [I64 q.me, I64 q.n, .slc 4 (partsN q.list)], .agg [I64 m.cycle, I64 zu, I64 3, nilD]]) rfl (r129) (by simp) ?_)|refine CallG.off ?_|with_reducible refine Or.inl ?_|simp only [thenS,blockS]|with_reducible refine And.intro ?_ ?_|with_reducible exact True.intro|simp (dsimp:=false) only [↓gq,↓stepP,↓stepG,go_sem,hb,hc,hk,hk2,cm,hg,hst])
      all_goals (try (first|(intro hg;simp [hg];done)|exact of_decide_eq_true rfl|(cases h;done)))
      all_goals (try (intro hg; simp only [hg, Bool.not_false, Bool.not_true, Bool.and_self, Bool.true_and, Bool.and_true, true_and, and_self, imp_self, implies_true]; done))
      (refine Fin.data (.inr rfl) (by simp (dsimp:=false) only [↓gq,↓stepP,↓stepG,go_sem,resL]; rfl) (by simp only [and_self]) (by simp (dsimp:=false) only [↓gq,↓stepP,↓stepG,go_sem,resP,Nat.le_refl,List.take_length]; try rfl) ?_)
      simp [subD, subL, subV, subD_refl]
    | true =>
      rw [hr] at r128
      rw [if_pos rfl, e1, List.nil_append]
      have r129 := run129 q ⟨m.cycle, zu, 2, mineL q.me m.ls⟩ (by omega)
      by_cases hm0 : mineL q.me m.ls = []
      · rw [hm0] at r129 ⊢
        unfold Part.cellsN linesN at r129
        unfold voteM saidD Msg.cells
        unfold VP.dN rdD RDesk.d RDesk.cells VMsg.msg Msg.d Msg.cells at *
        unfold linesN at hg
        refine Runs.of (kit Try.prog) Try.func71 rfl rfl (by rw [Try.ntmps71]; exact of_decide_eq_true rfl) ?_; rw [Try.ntmps71, Try.results71]
        repeat' (first|((first|refine goA rfl fun K hK=>?_|refine goB rfl fun K hK=>?_|refine goC rfl rfl fun K hK=>?_|refine goD rfl rfl fun K hK=>?_);simp (dsimp:=false) only [↓gq,↓stepP,↓stepG,go_sem,hb,hc,hk,hk2,cm,hg,hst,hll])|refine Pwp.seq ?_|refine Pwp.block ?_|(refine Pwp.exit ?_;simp only [thenS,blockS,if_true,if_false,reduceIte,Nat.reduceEqDiff,Nat.add_one_ne_zero,reduceCtorEq])|(refine Pwp.skip ?_;simp only [thenS,blockS])|(refine Pwp.cond rfl True.intro (fun h=>?_) (fun h=>?_)<;>(try (cases h;done))<;>(try simp only [h]))|refine Pwp.ret ?_|(refine hK _ ?_;clear hK K)|(refine hK _ _ rfl ?_;clear hK K)|(refine CallK.toD (ds:=[.agg [I64 q.me, I64 q.n, .slc 4 (partsN q.list)], I64 m.cycle]) rfl (r127) rfl ?_)|(refine CallK.toD (ds:=[.agg [I64 q.me, I64 q.n, .slc 4 (partsN q.list)], .agg [I64 0, I64 0, .slc 8 (itemsD w), .slc 3 (ordersD [])], .agg [I64 m.kind, I64 m.seller, I64 m.number, I64 m.buyer, I64 m.currency, I64 m.round, I64 m.cycle, I64 m.amount, .v (.bool m.yes), .slc 4 (linesD m.ls), .slc 1 (m.ns.map I64)]]) rfl (r128) rfl ?_)|refine CallG.off ?_|with_reducible refine Or.inl ?_|simp only [thenS,blockS]|with_reducible refine And.intro ?_ ?_|with_reducible exact True.intro|simp (dsimp:=false) only [↓gq,↓stepP,↓stepG,go_sem,hb,hc,hk,hk2,cm,hg,hst,hll])
        all_goals (try (first|(intro hg;simp [hg];done)|exact of_decide_eq_true rfl|(cases h;done)))
        all_goals (try (intro hg; simp only [hg, Bool.not_false, Bool.not_true, Bool.and_self, Bool.true_and, Bool.and_true, true_and, and_self, imp_self, implies_true]; done))
        refine Pwp.range m.ls.length (S := L71n q w m m.cycle zu) (Sub.view V0 (by simp [L71n]) rfl (by simp [L71n,boxQ,boxR,boxV]) (by simp [L71n,boxQ,boxR,boxV])) (fun i hi => ?_) ?_
        · obtain ⟨x, hx, hm⟩ := at_lt hi
          have hgx := lines_get hx
          have c1 := dlt hi
          have w1 := wrap_succ (i := i) (by omega)
          have hnm := mine_none hm0 hm
          unfold notMine at hnm
          rw [Bool.and_eq_true, bne_iff_ne, bne_iff_ne] at hnm
          have k1 : (x.seller == q.me) = false := by simpa using hnm.1
          have k2 : (x.buyer == q.me) = false := by simpa using hnm.2
          unfold L71n boxQ boxR boxV
          repeat' (first|((first|refine goA rfl fun K hK=>?_|refine goB rfl fun K hK=>?_|refine goC rfl rfl fun K hK=>?_|refine goD rfl rfl fun K hK=>?_);simp (dsimp:=false) only [↓gq,↓stepP,↓stepG,go_sem,hgx,c1,w1,hll,k1,k2])|refine Pwp.seq ?_|refine Pwp.block ?_|(refine Pwp.exit ?_;simp only [thenS,blockS,if_true,if_false,reduceIte,Nat.reduceEqDiff,Nat.add_one_ne_zero,reduceCtorEq])|(refine Pwp.skip ?_;simp only [thenS,blockS])|(refine Pwp.cond rfl True.intro (fun h=>?_) (fun h=>?_)<;>(try (cases h;done))<;>(try simp only [h]))|refine Pwp.ret ?_|(refine hK _ ?_;clear hK K)|(refine hK _ _ rfl ?_;clear hK K)|refine CallG.off ?_|with_reducible refine Or.inl ?_|simp only [thenS,blockS]|with_reducible refine And.intro ?_ ?_|with_reducible exact True.intro|simp (dsimp:=false) only [↓gq,↓stepP,↓stepG,go_sem,hgx,c1,w1,hll,k1,k2])
          all_goals (try (first|(intro hg;simp [hg];done)|exact of_decide_eq_true rfl|(cases h;done)))
          exact Sub.view V0 (by simp [L71n]) rfl (by simp [L71n,boxQ,boxR,boxV]) (by simp [L71n,boxQ,boxR,boxV])
        · have c1 := dge (Nat.le_refl m.ls.length)
          unfold L71n boxQ boxR boxV
          repeat' (first|((first|refine goA rfl fun K hK=>?_|refine goB rfl fun K hK=>?_|refine goC rfl rfl fun K hK=>?_|refine goD rfl rfl fun K hK=>?_);simp (dsimp:=false) only [↓gq,↓stepP,↓stepG,go_sem,c1,hll])|refine Pwp.seq ?_|refine Pwp.block ?_|(refine Pwp.exit ?_;simp only [thenS,blockS,if_true,if_false,reduceIte,Nat.reduceEqDiff,Nat.add_one_ne_zero,reduceCtorEq])|(refine Pwp.skip ?_;simp only [thenS,blockS])|(refine Pwp.cond rfl True.intro (fun h=>?_) (fun h=>?_)<;>(try (cases h;done))<;>(try simp only [h]))|refine Pwp.ret ?_|(refine hK _ ?_;clear hK K)|(refine hK _ _ rfl ?_;clear hK K)|(refine CallK.give (ds:=[.agg [I64 q.me, I64 q.n, .slc 4 (partsN q.list)], .agg [I64 m.cycle, I64 zu, I64 2, nilD]]) rfl (r129) (by simp) ?_)|refine CallG.off ?_|with_reducible refine Or.inl ?_|simp only [thenS,blockS]|with_reducible refine And.intro ?_ ?_|with_reducible exact True.intro|simp (dsimp:=false) only [↓gq,↓stepP,↓stepG,go_sem,c1,hll])
          all_goals (try (first|(intro hg;simp [hg];done)|exact of_decide_eq_true rfl|(cases h;done)))
          (refine Fin.data (.inr rfl) (by simp (dsimp:=false) only [↓gq,↓stepP,↓stepG,go_sem,resL]; rfl) (by simp only [and_self]) (by simp (dsimp:=false) only [↓gq,↓stepP,↓stepG,go_sem,resP,Nat.le_refl,List.take_length]; try rfl) ?_)
          simp [subD, subL, subV, subD_refl]
      · unfold Part.cellsN at r129
        rw [linesN_some hm0] at r129
        unfold voteM saidD Msg.cells
        unfold VP.dN rdD RDesk.d RDesk.cells VMsg.msg Msg.d Msg.cells at *
        unfold linesN at hg
        refine Runs.of (kit Try.prog) Try.func71 rfl rfl (by rw [Try.ntmps71]; exact of_decide_eq_true rfl) ?_; rw [Try.ntmps71, Try.results71]
        repeat' (first|((first|refine goA rfl fun K hK=>?_|refine goB rfl fun K hK=>?_|refine goC rfl rfl fun K hK=>?_|refine goD rfl rfl fun K hK=>?_);simp (dsimp:=false) only [↓gq,↓stepP,↓stepG,go_sem,hb,hc,hk,hk2,cm,hg,hst,hll])|refine Pwp.seq ?_|refine Pwp.block ?_|(refine Pwp.exit ?_;simp only [thenS,blockS,if_true,if_false,reduceIte,Nat.reduceEqDiff,Nat.add_one_ne_zero,reduceCtorEq])|(refine Pwp.skip ?_;simp only [thenS,blockS])|(refine Pwp.cond rfl True.intro (fun h=>?_) (fun h=>?_)<;>(try (cases h;done))<;>(try simp only [h]))|refine Pwp.ret ?_|(refine hK _ ?_;clear hK K)|(refine hK _ _ rfl ?_;clear hK K)|(refine CallK.toD (ds:=[.agg [I64 q.me, I64 q.n, .slc 4 (partsN q.list)], I64 m.cycle]) rfl (r127) rfl ?_)|(refine CallK.toD (ds:=[.agg [I64 q.me, I64 q.n, .slc 4 (partsN q.list)], .agg [I64 0, I64 0, .slc 8 (itemsD w), .slc 3 (ordersD [])], .agg [I64 m.kind, I64 m.seller, I64 m.number, I64 m.buyer, I64 m.currency, I64 m.round, I64 m.cycle, I64 m.amount, .v (.bool m.yes), .slc 4 (linesD m.ls), .slc 1 (m.ns.map I64)]]) rfl (r128) rfl ?_)|refine CallG.off ?_|with_reducible refine Or.inl ?_|simp only [thenS,blockS]|with_reducible refine And.intro ?_ ?_|with_reducible exact True.intro|simp (dsimp:=false) only [↓gq,↓stepP,↓stepG,go_sem,hb,hc,hk,hk2,cm,hg,hst,hll])
        all_goals (try (first|(intro hg;simp [hg];done)|exact of_decide_eq_true rfl|(cases h;done)))
        all_goals (try (intro hg; simp only [hg, Bool.not_false, Bool.not_true, Bool.and_self, Bool.true_and, Bool.and_true, true_and, and_self, imp_self, implies_true]; done))
        refine Pwp.range m.ls.length (S := L71o q w m m.cycle zu) (Sub.view (VN 60) (by simp [L71o]) rfl (by simp [L71o,boxQ,boxR,boxV,mineL,linesD]) (by simp [L71o,boxQ,boxR,boxV,mineL,linesD])) (fun i hi => ?_) ?_
        · obtain ⟨x, hx, hm⟩ := at_lt hi
          have hgx := lines_get hx
          have c1 := dlt hi
          have w1 := wrap_succ (i := i) (by omega)
          have hmk := mine_take (me := q.me) hx
          have hml := hmt i
          have hln := lines_len (mineL q.me (m.ls.take i))
          have htk : (linesD (mineL q.me (m.ls.take i))).take (mineL q.me (m.ls.take i)).length = linesD (mineL q.me (m.ls.take i)) := List.take_of_length_le (by omega)
          cases hnm : notMine q.me x with
          | true =>
            rw [if_pos hnm, List.append_nil] at hmk
            unfold notMine at hnm
            rw [Bool.and_eq_true, bne_iff_ne, bne_iff_ne] at hnm
            have k1 : (x.seller == q.me) = false := by simpa using hnm.1
            have k2 : (x.buyer == q.me) = false := by simpa using hnm.2
            unfold L71o boxQ boxR boxV
            repeat' (first|((first|refine goA rfl fun K hK=>?_|refine goB rfl fun K hK=>?_|refine goC rfl rfl fun K hK=>?_|refine goD rfl rfl fun K hK=>?_);simp (dsimp:=false) only [↓gq,↓stepP,↓stepG,go_sem,hgx,c1,w1,hll,k1,k2])|refine Pwp.seq ?_|refine Pwp.block ?_|(refine Pwp.exit ?_;simp only [thenS,blockS,if_true,if_false,reduceIte,Nat.reduceEqDiff,Nat.add_one_ne_zero,reduceCtorEq])|(refine Pwp.skip ?_;simp only [thenS,blockS])|(refine Pwp.cond rfl True.intro (fun h=>?_) (fun h=>?_)<;>(try (cases h;done))<;>(try simp only [h]))|refine Pwp.ret ?_|(refine hK _ ?_;clear hK K)|(refine hK _ _ rfl ?_;clear hK K)|refine CallG.off ?_|with_reducible refine Or.inl ?_|simp only [thenS,blockS]|with_reducible refine And.intro ?_ ?_|with_reducible exact True.intro|simp (dsimp:=false) only [↓gq,↓stepP,↓stepG,go_sem,hgx,c1,w1,hll,k1,k2])
            all_goals (try (first|(intro hg;simp [hg];done)|exact of_decide_eq_true rfl|(cases h;done)))
            exact Sub.view V0 (by simp [L71o]) rfl (by simp [L71o,boxQ,boxR,boxV,hmk]) (by simp [L71o,boxQ,boxR,boxV,hmk])
          | false =>
            rw [if_neg (by rw [hnm]; simp)] at hmk
            have k1 : (x.seller == q.me || x.buyer == q.me) = true := by
              unfold notMine at hnm
              rw [Bool.or_eq_true, beq_iff_eq, beq_iff_eq]
              rw [Bool.and_eq_false_iff, bne_eq_false_iff_eq, bne_eq_false_iff_eq] at hnm
              exact hnm
            have hl2 : linesD (mineL q.me (m.ls.take (i + 1))) = linesD (mineL q.me (m.ls.take i)) ++ [.agg [I64 x.seller, I64 x.number, I64 x.buyer, I64 x.amount]] := by rw [hmk]; simp [linesD, Line.d, Line.cells]
            have hl1 : (mineL q.me (m.ls.take (i + 1))).length = (mineL q.me (m.ls.take i)).length + 1 := by rw [hmk]; simp
            unfold L71o boxQ boxR boxV
            repeat' (first|((first|refine goA rfl fun K hK=>?_|refine goB rfl fun K hK=>?_|refine goC rfl rfl fun K hK=>?_|refine goD rfl rfl fun K hK=>?_);simp (dsimp:=false) only [↓gq,↓stepP,↓stepG,go_sem,hgx,c1,w1,hll,k1,hln,htk])|refine Pwp.seq ?_|refine Pwp.block ?_|(refine Pwp.exit ?_;simp only [thenS,blockS,if_true,if_false,reduceIte,Nat.reduceEqDiff,Nat.add_one_ne_zero,reduceCtorEq])|(refine Pwp.skip ?_;simp only [thenS,blockS])|(refine Pwp.cond rfl True.intro (fun h=>?_) (fun h=>?_)<;>(try (cases h;done))<;>(try simp only [h]))|refine Pwp.ret ?_|(refine hK _ ?_;clear hK K)|(refine hK _ _ rfl ?_;clear hK K)|refine CallG.off ?_|with_reducible refine Or.inl ?_|simp only [thenS,blockS]|with_reducible refine And.intro ?_ ?_|with_reducible exact True.intro|simp (dsimp:=false) only [↓gq,↓stepP,↓stepG,go_sem,hgx,c1,w1,hll,k1,hln,htk])
            all_goals (try (first|(intro hg;simp [hg];done)|exact of_decide_eq_true rfl|(cases h;done)))
            all_goals (try (first | omega | (simp [maxLen]; omega) | (simp [hln]; done)))
            all_goals (try (intro hg; simp only [hg, Bool.not_false, Bool.not_true, Bool.and_self, Bool.true_and, Bool.and_true, true_and, and_self, imp_self, implies_true]; done))
            exact Sub.view (VR 60 1) (by simp [L71o]) rfl (by simp [L71o,boxQ,boxR,boxV,hl2,hl1]) (by simp [L71o,boxQ,boxR,boxV,hl2,hl1])
        · have c1 := dge (Nat.le_refl m.ls.length)
          have hml := hmt m.ls.length
          rw [List.take_length] at hml
          have hln := lines_len (mineL q.me m.ls)
          have htk : (linesD (mineL q.me m.ls)).take (mineL q.me m.ls).length = linesD (mineL q.me m.ls) := List.take_of_length_le (by omega)
          unfold L71o boxQ boxR boxV
          rw [List.take_length]
          repeat' (first|((first|refine goA rfl fun K hK=>?_|refine goB rfl fun K hK=>?_|refine goC rfl rfl fun K hK=>?_|refine goD rfl rfl fun K hK=>?_);simp (dsimp:=false) only [↓gq,↓stepP,↓stepG,go_sem,c1,hll,hln,htk,Nat.le_refl])|refine Pwp.seq ?_|refine Pwp.block ?_|(refine Pwp.exit ?_;simp only [thenS,blockS,if_true,if_false,reduceIte,Nat.reduceEqDiff,Nat.add_one_ne_zero,reduceCtorEq])|(refine Pwp.skip ?_;simp only [thenS,blockS])|(refine Pwp.cond rfl True.intro (fun h=>?_) (fun h=>?_)<;>(try (cases h;done))<;>(try simp only [h]))|refine Pwp.ret ?_|(refine hK _ ?_;clear hK K)|(refine hK _ _ rfl ?_;clear hK K)|(refine CallK.give (ds:=[.agg [I64 q.me, I64 q.n, .slc 4 (partsN q.list)], .agg [I64 m.cycle, I64 zu, I64 2, .slc 4 (linesD (mineL q.me m.ls))]]) (by simp [toDL, PVal.toD, find, htk, hln]) r129 (by simp) ?_)|refine CallG.off ?_|with_reducible refine Or.inl ?_|simp only [thenS,blockS]|with_reducible refine And.intro ?_ ?_|with_reducible exact True.intro|simp (dsimp:=false) only [↓gq,↓stepP,↓stepG,go_sem,c1,hll,hln,htk,Nat.le_refl])
          all_goals (try (first|(intro hg;simp [hg];done)|exact of_decide_eq_true rfl|(cases h;done)))
          (refine Fin.data (.inr rfl) (by simp (dsimp:=false) only [↓gq,↓stepP,↓stepG,go_sem,resL]; rfl) (by simp only [and_self]) (by simp (dsimp:=false) only [↓gq,↓stepP,↓stepG,go_sem,resP,Nat.le_refl,List.take_length]; try rfl) ?_)
          simp [subD, subL, subV, subD_refl]
end Go.Proofs.Ytdodgbhodkcckaa.Pv
end
section
set_option linter.unusedVariables false
set_option linter.unusedSimpArgs false
set_option autoImplicit false
set_option maxRecDepth 100000
namespace Go.Proofs.Ytdodgbhodkcckaa.Pv
open Go Go.RowKit
set_option maxHeartbeats 64000000 in
theorem run71f (q : VP) (me : Int) (l w : List Item) (m : VMsg) (f : Int) (hR : RelI me l w) (hw : w.length ≤ 10000) (hq : q.list.length ≤ 10000)
    (hb : refBad m f = false) (hc : (f != -1 && f != q.n) = false) (hk : (m.kind == 10) = false) (hk2 : (m.kind == 12) = false) (hk3 : (m.kind == 16) = false) {k : Nat} {z : Part} (hf : fndC m.cycle 0 q.list = (k : Int)) (hz : q.list[k]? = some z) (hzc : z.cycle = m.cycle) (hc0 : m.cycle ≠ 0) (hzl : z.lines.length ≤ 10000) (hlt : refLate q m = false) :
    Runs Try.prog 71 [.d q.dN, .d (rdD w).d, .d m.msg.d, pint .i64 f] [] (.d (rvD (refDo q l w m f))) [] := by
  have r127 := run127 q m.cycle (by omega)
  have r130 := run130 q me l w m z hR hw hq hzl hc0
  rw [hf] at r127
  have e1 : ∀ r : ROutV, rvD r = .tup [r.q.dN, (rdD r.w).d, .slc 12 r.o.toList, I64 r.e] := fun _ => rfl
  have cm : decide ((k : Int) < 0) = false := decide_eq_false (by omega)
  have hg := partsN_get hz
  have hp : partAt q m.cycle = z := by unfold partAt; rw [hf, Int.toNat_natCast, hz]; rfl
  unfold refDo
  rw [hb, hc, hk, hk2, hk3, hf, cm, hlt, if_neg (by simp), if_neg (by simp), if_neg (by simp), if_neg (by simp), if_neg (by simp), if_neg (by simp), if_neg (by simp), hp, e1]
  unfold refLate at hlt
  rw [hp] at hlt
  obtain ⟨zc, zu, zs, zl⟩ := z
  simp only at hlt hg hzc r130 ⊢
  subst hzc
  unfold refBad at hb
  rw [hk3] at hb
  have hone : D.one (linesN zl) = true := by cases zl <;> rfl
  generalize withL q.list _ = ql at *
  generalize w.map _ = wl at *
  unfold Part.cellsN at r130
  unfold VP.dN rdD RDesk.d RDesk.cells VMsg.msg Msg.d Msg.cells at *
  simp only at hg r130
  cases zl with
  | nil =>
    unfold linesN at hg r130
    refine Runs.of (kit Try.prog) Try.func71 rfl rfl (by rw [Try.ntmps71]; exact of_decide_eq_true rfl) ?_; rw [Try.ntmps71, Try.results71]
    repeat' (first|((first|refine goA rfl fun K hK=>?_|refine goB rfl fun K hK=>?_|refine goC rfl rfl fun K hK=>?_|refine goD rfl rfl fun K hK=>?_);simp (dsimp:=false) only [↓gq,↓stepP,↓stepG,go_sem,hb,hc,hk,hk2,hk3,cm,hg,hlt])|refine Pwp.seq ?_|refine Pwp.block ?_|(refine Pwp.exit ?_;simp only [thenS,blockS,if_true,if_false,reduceIte,Nat.reduceEqDiff,Nat.add_one_ne_zero,reduceCtorEq])|(refine Pwp.skip ?_;simp only [thenS,blockS])|(refine Pwp.cond rfl True.intro (fun h=>?_) (fun h=>?_)<;>(try (cases h;done))<;>(try simp only [h]))|refine Pwp.ret ?_|(refine hK _ ?_;clear hK K)|(refine hK _ _ rfl ?_;clear hK K)|(refine CallK.toD (ds:=[.agg [I64 q.me, I64 q.n, .slc 4 (partsN q.list)], I64 m.cycle]) rfl (r127) rfl ?_)|(refine CallK.give (ds:=[.agg [I64 q.me, I64 q.n, .slc 4 (partsN q.list)], .agg [I64 0, I64 0, .slc 8 (itemsD w), .slc 3 (ordersD [])], .agg [I64 m.kind, I64 m.seller, I64 m.number, I64 m.buyer, I64 m.currency, I64 m.round, I64 m.cycle, I64 m.amount, .v (.bool m.yes), .slc 4 (linesD m.ls), .slc 1 (m.ns.map I64)], .agg [I64 m.cycle, I64 zu, I64 zs, nilD]]) rfl (r130) (by simp) ?_)|refine CallG.off ?_|with_reducible refine Or.inl ?_|simp only [thenS,blockS]|with_reducible refine And.intro ?_ ?_|with_reducible exact True.intro|simp (dsimp:=false) only [↓gq,↓stepP,↓stepG,go_sem,hb,hc,hk,hk2,hk3,cm,hg,hlt])
    all_goals (try (first|(intro hg;simp [hg];done)|exact of_decide_eq_true rfl|(cases h;done)))
    all_goals (try (intro hg; simp only [hg, Bool.not_false, Bool.not_true, Bool.and_self, Bool.true_and, Bool.and_true, true_and, and_self, imp_self, implies_true]; done))
    (refine Fin.data (.inr rfl) (by simp (dsimp:=false) only [↓gq,↓stepP,↓stepG,go_sem,resL]; rfl) (by simp only [and_self]) (by simp (dsimp:=false) only [↓gq,↓stepP,↓stepG,go_sem,resP,Nat.le_refl,List.take_length]; try rfl) ?_)
    simp [subD, subL, subV, subD_refl]
  | cons y ys =>
    unfold linesN at hg r130
    refine Runs.of (kit Try.prog) Try.func71 rfl rfl (by rw [Try.ntmps71]; exact of_decide_eq_true rfl) ?_; rw [Try.ntmps71, Try.results71]
    repeat' (first|((first|refine goA rfl fun K hK=>?_|refine goB rfl fun K hK=>?_|refine goC rfl rfl fun K hK=>?_|refine goD rfl rfl fun K hK=>?_);simp (dsimp:=false) only [↓gq,↓stepP,↓stepG,go_sem,hb,hc,hk,hk2,hk3,cm,hg,hlt])|refine Pwp.seq ?_|refine Pwp.block ?_|(refine Pwp.exit ?_;simp only [thenS,blockS,if_true,if_false,reduceIte,Nat.reduceEqDiff,Nat.add_one_ne_zero,reduceCtorEq])|(refine Pwp.skip ?_;simp only [thenS,blockS])|(refine Pwp.cond rfl True.intro (fun h=>?_) (fun h=>?_)<;>(try (cases h;done))<;>(try simp only [h]))|refine Pwp.ret ?_|(refine hK _ ?_;clear hK K)|(refine hK _ _ rfl ?_;clear hK K)|(refine CallK.toD (ds:=[.agg [I64 q.me, I64 q.n, .slc 4 (partsN q.list)], I64 m.cycle]) rfl (r127) rfl ?_)|(refine CallK.give (ds:=[.agg [I64 q.me, I64 q.n, .slc 4 (partsN q.list)], .agg [I64 0, I64 0, .slc 8 (itemsD w), .slc 3 (ordersD [])], .agg [I64 m.kind, I64 m.seller, I64 m.number, I64 m.buyer, I64 m.currency, I64 m.round, I64 m.cycle, I64 m.amount, .v (.bool m.yes), .slc 4 (linesD m.ls), .slc 1 (m.ns.map I64)], .agg [I64 m.cycle, I64 zu, I64 zs, .slc 4 (linesD (y :: ys))]]) rfl (r130) (by simp) ?_)|refine CallG.off ?_|with_reducible refine Or.inl ?_|simp only [thenS,blockS]|with_reducible refine And.intro ?_ ?_|with_reducible exact True.intro|simp (dsimp:=false) only [↓gq,↓stepP,↓stepG,go_sem,hb,hc,hk,hk2,hk3,cm,hg,hlt])
    all_goals (try (first|(intro hg;simp [hg];done)|exact of_decide_eq_true rfl|(cases h;done)))
    all_goals (try (intro hg; simp only [hg, Bool.not_false, Bool.not_true, Bool.and_self, Bool.true_and, Bool.and_true, true_and, and_self, imp_self, implies_true]; done))
    (refine Fin.data (.inr rfl) (by simp (dsimp:=false) only [↓gq,↓stepP,↓stepG,go_sem,resL]; rfl) (by simp only [and_self]) (by simp (dsimp:=false) only [↓gq,↓stepP,↓stepG,go_sem,resP,Nat.le_refl,List.take_length]; try rfl) ?_)
    simp [subD, subL, subV, subD_refl]
end Go.Proofs.Ytdodgbhodkcckaa.Pv
end
section
set_option linter.unusedVariables false
set_option linter.unusedSimpArgs false
set_option autoImplicit false
set_option maxRecDepth 100000
namespace Go.Proofs.Ytdodgbhodkcckaa.Pv
open Go Go.RowKit
def vx0 : Item := ⟨0, 1, 1, 0, 70, 0, 3, 0⟩
def vln : Line := ⟨0, 1, 1, 70⟩
def vm1 : VMsg := ⟨10, 0, 0, 0, 0, 0, 1, 0, false, [], []⟩
def vm2 : VMsg := ⟨12, 0, 0, 0, 0, 0, 1, 0, false, [vln], [70, -70]⟩
def vm3 : VMsg := ⟨14, 0, 0, 0, 0, 0, 1, 0, true, [], []⟩
theorem v0_is : fillS [vx0] = ([vx0], [vx0]) := by kernel_rfl
theorem v1_is : voteR ⟨0, 2, []⟩ [vx0] vm1 2 = ⟨0, ⟨0, 2, [⟨1, 0, 1, []⟩]⟩, [⟨0, 1, 1, 0, 70, 0, 3, 1⟩], some (saidD 2 (offerM 1 [vln]))⟩ := by kernel_rfl
theorem v2_is : voteR ⟨0, 2, [⟨1, 0, 1, []⟩]⟩ [⟨0, 1, 1, 0, 70, 0, 3, 1⟩] vm2 2 = ⟨0, ⟨0, 2, [⟨1, 0, 2, [vln]⟩]⟩, [⟨0, 1, 1, 0, 70, 0, 3, 1⟩], some (saidD 2 (voteM 1 true))⟩ := by kernel_rfl
theorem v3_is : voteR ⟨0, 2, [⟨1, 0, 2, [vln]⟩]⟩ [⟨0, 1, 1, 0, 70, 0, 3, 1⟩] vm3 2 = ⟨0, ⟨0, 2, [⟨1, 0, 4, [vln]⟩]⟩, [⟨0, 1, 1, 0, 70, 0, 5, 1⟩], none⟩ := by kernel_rfl
theorem v4_is : getI [⟨0, 1, 1, 0, 70, 0, 5, 1⟩] 0 1 = ⟨0, 1, 1, 0, 70, 0, 5, 1⟩ := by kernel_rfl
theorem v4_in : isIn [⟨0, 1, 1, 0, 70, 0, 5, 1⟩] 0 1 = true := by kernel_rfl
theorem v5_is : getC [⟨1, 0, 4, [vln]⟩] 1 = ⟨1, 0, 4, [vln]⟩ := by kernel_rfl
theorem v5_in : isC [⟨1, 0, 4, [vln]⟩] 1 = true := by kernel_rfl
theorem v_good (x : Item) (h : Fine x) (hm : x.seller = 0 ∨ x.buyer = 0) : Good 0 [x] := ⟨by simp [Rising], by simpa using h, by simpa using hm⟩
set_option maxHeartbeats 64000000 in
theorem run67 : Runs Try.prog 67 [] [] (pbool true) [] := by
  have r0 := run69 [vx0] (by simp)
  rw [v0_is] at r0
  have g1 : Good 0 [vx0] := v_good _ (chk_fine.1 (by kernel_rfl)) (.inl rfl)
  have g2 : Good 0 [⟨0, 1, 1, 0, 70, 0, 3, 1⟩] := v_good _ (chk_fine.1 (by kernel_rfl)) (.inl rfl)
  have r1 := run70 ⟨0, 2, []⟩ 0 [vx0] [] vm1 2 g1 (by simp) (by simp) (by simp) (by simp [vm1]) (by simp [vm1])
  have r2 := run70 ⟨0, 2, [⟨1, 0, 1, []⟩]⟩ 0 [⟨0, 1, 1, 0, 70, 0, 3, 1⟩] [] vm2 2 g2 (by simp) (by simp) (by simp) (by simp [vm2]) (by simp [vm2])
  have r3 := run70 ⟨0, 2, [⟨1, 0, 2, [vln]⟩]⟩ 0 [⟨0, 1, 1, 0, 70, 0, 3, 1⟩] [] vm3 2 g2 (by simp) (by simp) (by simp) (by simp [vm3]) (by simp [vm3])
  have rw2 := run76 ⟨0, 2, [⟨1, 0, 2, [vln]⟩]⟩ (by simp)
  have rw3 := run76 ⟨0, 2, [⟨1, 0, 4, [vln]⟩]⟩ (by simp)
  have r65 := run65 0 [⟨0, 1, 1, 0, 70, 0, 5, 1⟩] [] 0 1 (by simp)
  have r74 := run74 ⟨0, 2, [⟨1, 0, 4, [vln]⟩]⟩ 1 (by simp) (by simp)
  rw [v1_is] at r1
  rw [v2_is] at r2
  rw [v3_is] at r3
  rw [v4_is, v4_in] at r65
  rw [v5_is, v5_in] at r74
  have w2 : (waitsL [⟨1, 0, 2, [vln]⟩]).map I64 = [I64 1] := by kernel_rfl
  have w3 : (waitsL [⟨1, 0, 4, [vln]⟩]).map I64 = [] := by kernel_rfl
  simp only [w2, w3] at rw2 rw3
  simp only [vOutD, VP.d, VP.cells, bookD, VMsg.msg, vm1, vm2, vm3, Msg.d, Msg.cells, saidD, offerM, voteM, Option.toList, rdD, RDesk.d, RDesk.cells] at r0 r1 r2 r3 rw2 rw3 r65 r74
  unfold Item.d Item.cells at r65
  unfold Part.d Part.cells at r74
  have l1 : (linesD [vln]).length = 1 := rfl
  refine Runs.of (kit Try.prog) Try.func67 rfl rfl (by rw [Try.ntmps67]; exact of_decide_eq_true rfl) ?_; rw [Try.ntmps67, Try.results67]
  repeat' (first|((first|refine goA rfl fun K hK=>?_|refine goB rfl fun K hK=>?_|refine goC rfl rfl fun K hK=>?_|refine goD rfl rfl fun K hK=>?_);simp (dsimp:=false) only [↓gq,↓stepP,↓stepG,go_sem,l1,bne_self_eq_false,beq_self_eq_true,Bool.not_true,Bool.not_false,Bool.or_self,Bool.and_self])|refine Pwp.seq ?_|refine Pwp.block ?_|(refine Pwp.exit ?_;simp only [thenS,blockS,if_true,if_false,reduceIte,Nat.reduceEqDiff,Nat.add_one_ne_zero,reduceCtorEq])|(refine Pwp.skip ?_;simp only [thenS,blockS])|(refine Pwp.cond rfl True.intro (fun h=>?_) (fun h=>?_)<;>(try (cases h;done))<;>(try simp only [h]))|refine Pwp.ret ?_|(refine hK _ ?_;clear hK K)|(refine hK _ _ rfl ?_;clear hK K)|(refine CallK.giveS (ds:=[.agg [I64 0, I64 2, nilD], .agg [I64 0, .slc 8 (itemsD [vx0]), .slc 3 []], .agg [I64 10, I64 0, I64 0, I64 0, I64 0, I64 0, I64 1, I64 0, .v (.bool false), nilD, nilD], I64 2]) (es:=[.agg [I64 0, I64 2, .slc 4 (partsL [])], .agg [I64 0, .slc 8 (itemsD [vx0]), .slc 3 []], .agg [I64 10, I64 0, I64 0, I64 0, I64 0, I64 0, I64 1, I64 0, .v (.bool false), .slc 4 (linesD []), .slc 1 (List.map I64 [])], I64 2]) rfl (by simp [subL, subD, subV, subD_refl, linesD, partsL]) r1 (by simp) ?_)|(refine CallK.giveS (ds:=[.agg [I64 0, I64 2, .slc 4 (partsL [⟨1, 0, 1, []⟩])], .agg [I64 0, .slc 8 (itemsD [⟨0, 1, 1, 0, 70, 0, 3, 1⟩]), .slc 3 []], .agg [I64 12, I64 0, I64 0, I64 0, I64 0, I64 0, I64 1, I64 0, .v (.bool false), .slc 4 (linesD [vln]), .slc 1 [I64 70, I64 (-70)]], I64 2]) (es:=[.agg [I64 0, I64 2, .slc 4 (partsL [⟨1, 0, 1, []⟩])], .agg [I64 0, .slc 8 (itemsD [⟨0, 1, 1, 0, 70, 0, 3, 1⟩]), .slc 3 []], .agg [I64 12, I64 0, I64 0, I64 0, I64 0, I64 0, I64 1, I64 0, .v (.bool false), .slc 4 (linesD [vln]), .slc 1 (List.map I64 [70, -70])], I64 2]) rfl (by simp [subL, subD, subV, subD_refl, linesD, partsL]) r2 (by simp) ?_)|(refine CallK.giveS (ds:=[.agg [I64 0, I64 2, .slc 4 (partsL [⟨1, 0, 2, [vln]⟩])], .agg [I64 0, .slc 8 (itemsD [⟨0, 1, 1, 0, 70, 0, 3, 1⟩]), .slc 3 []], .agg [I64 14, I64 0, I64 0, I64 0, I64 0, I64 0, I64 1, I64 0, .v (.bool true), nilD, nilD], I64 2]) (es:=[.agg [I64 0, I64 2, .slc 4 (partsL [⟨1, 0, 2, [vln]⟩])], .agg [I64 0, .slc 8 (itemsD [⟨0, 1, 1, 0, 70, 0, 3, 1⟩]), .slc 3 []], .agg [I64 14, I64 0, I64 0, I64 0, I64 0, I64 0, I64 1, I64 0, .v (.bool true), .slc 4 (linesD []), .slc 1 (List.map I64 [])], I64 2]) rfl (by simp [subL, subD, subV, subD_refl, linesD, partsL]) r3 (by simp) ?_)|(refine CallG.toI (ds:=[.agg [I64 0, I64 2, .slc 4 (partsL [⟨1, 0, 2, [vln]⟩])]]) rfl rfl rw2 ?_ ?_)|(refine CallG.toI (ds:=[.agg [I64 0, I64 2, .slc 4 (partsL [⟨1, 0, 4, [vln]⟩])]]) rfl rfl rw3 ?_ ?_)|(refine CallK.toD (ds:=[.agg [I64 0, .slc 8 (itemsD [⟨0, 1, 1, 0, 70, 0, 5, 1⟩]), .slc 3 []], .agg [I64 0, I64 1]]) rfl (r65) rfl ?_)|(refine CallK.give (ds:=[.slc 8 [.agg [I64 0, I64 1, I64 1, I64 0, I64 70, I64 0, I64 3, I64 0]]]) rfl (r0) (by simp) ?_)|(refine CallK.give (ds:=[.agg [I64 0, I64 2, .slc 4 (partsL [⟨1, 0, 4, [vln]⟩])], I64 1]) rfl (r74) (by simp) ?_)|refine CallG.off ?_|with_reducible refine Or.inl ?_|simp only [thenS,blockS]|with_reducible refine And.intro ?_ ?_|with_reducible exact True.intro|simp (dsimp:=false) only [↓gq,↓stepP,↓stepG,go_sem,l1,bne_self_eq_false,beq_self_eq_true,Bool.not_true,Bool.not_false,Bool.or_self,Bool.and_self])
  all_goals (try (first|(intro hg;simp [hg];done)|exact of_decide_eq_true rfl|(cases h;done)))
  (refine Fin.data (.inr rfl) (by simp (dsimp:=false) only [↓gq,↓stepP,↓stepG,go_sem,resL]; rfl) (by simp only [and_self]) (by simp (dsimp:=false) only [↓gq,↓stepP,↓stepG,go_sem,resP,Nat.le_refl,List.take_length]; try rfl) ?_)
  exact subD_refl _
end Go.Proofs.Ytdodgbhodkcckaa.Pv
end
section
set_option linter.unusedVariables false
set_option linter.unusedSimpArgs false
set_option autoImplicit false
set_option maxRecDepth 100000
namespace Go.Proofs.Ytdodgbhodkcckaa.Pv
open Go Go.RowKit
def eqItm (x y : Item) : Bool := x.seller == y.seller && (x.number == y.number && (x.buyer == y.buyer && (x.currency == y.currency && (x.amount == y.amount && (x.round == y.round && (x.state == y.state && x.cycle == y.cycle))))))
theorem eqItm_refl (x : Item) : eqItm x x = true := by simp [eqItm]
set_option maxHeartbeats 16000000 in
theorem run68n (a : List Item) (ws : List VW) (h : (decide (40 < (a.length : Int)) || decide (40 < (ws.length : Int))) = true) : Runs Try.prog 68 [.d (.slc 8 (itemsD a)), .d (.slc 12 (vwsD ws))] [] (pbool false) [] := by
  have h1 := items_len a
  have h2 := vws_len ws
  refine Runs.of (kit Try.prog) Try.func68 rfl rfl (by rw [Try.ntmps68]; exact of_decide_eq_true rfl) ?_; rw [Try.ntmps68, Try.results68]
  repeat' (first|((first|refine goA rfl fun K hK=>?_|refine goB rfl fun K hK=>?_|refine goC rfl rfl fun K hK=>?_|refine goD rfl rfl fun K hK=>?_);simp (dsimp:=false) only [↓gq,↓stepP,↓stepG,go_sem,h1,h2,h])|refine Pwp.seq ?_|refine Pwp.block ?_|(refine Pwp.exit ?_;simp only [thenS,blockS,if_true,if_false,reduceIte,Nat.reduceEqDiff,Nat.add_one_ne_zero,reduceCtorEq])|(refine Pwp.skip ?_;simp only [thenS,blockS])|(refine Pwp.cond rfl True.intro (fun h=>?_) (fun h=>?_)<;>(try (cases h;done))<;>(try simp only [h]))|refine Pwp.ret ?_|(refine hK _ ?_;clear hK K)|(refine hK _ _ rfl ?_;clear hK K)|refine CallG.off ?_|with_reducible refine Or.inl ?_|simp only [thenS,blockS]|with_reducible refine And.intro ?_ ?_|with_reducible exact True.intro|simp (dsimp:=false) only [↓gq,↓stepP,↓stepG,go_sem,h1,h2,h])
  all_goals (try (first|(intro hg;simp [hg];done)|exact of_decide_eq_true rfl|(cases h;done)))
  (refine Fin.data (.inr rfl) (by simp (dsimp:=false) only [↓gq,↓stepP,↓stepG,go_sem,resL]; rfl) (by simp only [and_self]) (by simp (dsimp:=false) only [↓gq,↓stepP,↓stepG,go_sem,resP,Nat.le_refl,List.take_length]; try rfl) ?_)
  exact subD_refl _
def badW (w : VW) : Bool := decide (60 < (w.m.ls.length : Int)) || decide (12 < (w.m.ns.length : Int))
def fitsV (a : List Item) (ws : List VW) : Bool := !(decide (40 < (a.length : Int)) || decide (40 < (ws.length : Int))) && ws.all fun w => !badW w
def L68 (ws : List VW) (i : Nat) : St := ⟨[(17, pint .i64 i), (16, pint .i64 ws.length), (15, .d (.slc 12 (vwsD ws)))], [], 56⟩
set_option maxHeartbeats 16000000 in
theorem run68 (a : List Item) (ws : List VW) : Runs Try.prog 68 [.d (.slc 8 (itemsD a)), .d (.slc 12 (vwsD ws))] [] (pbool (fitsV a ws)) [] := by
  unfold fitsV
  cases hc : (decide (40 < (a.length : Int)) || decide (40 < (ws.length : Int))) with
  | true => exact run68n a ws hc
  | false =>
    have h1 := items_len a
    have h2 := vws_len ws
    have hc2 := hc
    simp only [Bool.or_eq_false_iff, decide_eq_false_iff_not] at hc2
    rw [Bool.not_false, Bool.true_and]
    refine Runs.of (kit Try.prog) Try.func68 rfl rfl (by rw [Try.ntmps68]; exact of_decide_eq_true rfl) ?_; rw [Try.ntmps68, Try.results68]
    repeat' (first|((first|refine goA rfl fun K hK=>?_|refine goB rfl fun K hK=>?_|refine goC rfl rfl fun K hK=>?_|refine goD rfl rfl fun K hK=>?_);simp (dsimp:=false) only [↓gq,↓stepP,↓stepG,go_sem,h1,h2,hc])|refine Pwp.seq ?_|refine Pwp.block ?_|(refine Pwp.exit ?_;simp only [thenS,blockS,if_true,if_false,reduceIte,Nat.reduceEqDiff,Nat.add_one_ne_zero,reduceCtorEq])|(refine Pwp.skip ?_;simp only [thenS,blockS])|(refine Pwp.cond rfl True.intro (fun h=>?_) (fun h=>?_)<;>(try (cases h;done))<;>(try simp only [h]))|refine Pwp.ret ?_|(refine hK _ ?_;clear hK K)|(refine hK _ _ rfl ?_;clear hK K)|refine CallG.off ?_|with_reducible refine Or.inl ?_|simp only [thenS,blockS]|with_reducible refine And.intro ?_ ?_|with_reducible exact True.intro|simp (dsimp:=false) only [↓gq,↓stepP,↓stepG,go_sem,h1,h2,hc])
    all_goals (try (first|(intro hg;simp [hg];done)|exact of_decide_eq_true rfl|(cases h;done)))
    refine Pwp.rangeI ws.length (fun i s => (∀ x ∈ ws.take i, badW x = false) ∧ s = L68 ws i) (s0 := L68 ws 0) (Sub.view V0 (by simp [L68]) rfl (by simp [L68]) (by simp [L68])) ⟨by simp, rfl⟩ ?_ ?_
    · rintro i s hi ⟨hok, rfl⟩
      obtain ⟨w, hx, hm⟩ := at_lt hi
      have hg := vws_get hx
      have c1 := dlt hi
      have w1 := wrap_succ (i := i) (by omega)
      have hl := lines_len w.m.ls
      have hn : (w.m.ns.map I64).length = w.m.ns.length := by simp
      cases hq : badW w with
      | true =>
        have hr : (ws.all fun w => !badW w) = false := by rw [List.all_eq_false]; exact ⟨w, hm, by simp [hq]⟩
        rw [hr]
        unfold badW at hq
        unfold L68
        repeat' (first|((first|refine goA rfl fun K hK=>?_|refine goB rfl fun K hK=>?_|refine goC rfl rfl fun K hK=>?_|refine goD rfl rfl fun K hK=>?_);simp (dsimp:=false) only [↓gq,↓stepP,↓stepG,go_sem,hg,c1,w1,hl,hn,hq])|refine Pwp.seq ?_|refine Pwp.block ?_|(refine Pwp.exit ?_;simp only [thenS,blockS,if_true,if_false,reduceIte,Nat.reduceEqDiff,Nat.add_one_ne_zero,reduceCtorEq])|(refine Pwp.skip ?_;simp only [thenS,blockS])|(refine Pwp.cond rfl True.intro (fun h=>?_) (fun h=>?_)<;>(try (cases h;done))<;>(try simp only [h]))|refine Pwp.ret ?_|(refine hK _ ?_;clear hK K)|(refine hK _ _ rfl ?_;clear hK K)|refine CallG.off ?_|with_reducible refine Or.inl ?_|simp only [thenS,blockS]|with_reducible refine And.intro ?_ ?_|with_reducible exact True.intro|simp (dsimp:=false) only [↓gq,↓stepP,↓stepG,go_sem,hg,c1,w1,hl,hn,hq])
        all_goals (try (first|(intro hg;simp [hg];done)|exact of_decide_eq_true rfl|(cases h;done)))
        (refine Fin.data (.inr rfl) (by simp (dsimp:=false) only [↓gq,↓stepP,↓stepG,go_sem,resL]; rfl) (by simp only [and_self]) (by simp (dsimp:=false) only [↓gq,↓stepP,↓stepG,go_sem,resP,Nat.le_refl,List.take_length]; try rfl) ?_)
        exact subD_refl _
      | false =>
        have hok' : ∀ x ∈ ws.take (i + 1), badW x = false := by
          intro z hz
          rw [List.take_add_one, hx] at hz
          rcases List.mem_append.1 hz with hz | hz
          · exact hok z hz
          · obtain rfl := by simpa using hz
            exact hq
        unfold badW at hq
        unfold L68
        repeat' (first|((first|refine goA rfl fun K hK=>?_|refine goB rfl fun K hK=>?_|refine goC rfl rfl fun K hK=>?_|refine goD rfl rfl fun K hK=>?_);simp (dsimp:=false) only [↓gq,↓stepP,↓stepG,go_sem,hg,c1,w1,hl,hn,hq])|refine Pwp.seq ?_|refine Pwp.block ?_|(refine Pwp.exit ?_;simp only [thenS,blockS,if_true,if_false,reduceIte,Nat.reduceEqDiff,Nat.add_one_ne_zero,reduceCtorEq])|(refine Pwp.skip ?_;simp only [thenS,blockS])|(refine Pwp.cond rfl True.intro (fun h=>?_) (fun h=>?_)<;>(try (cases h;done))<;>(try simp only [h]))|refine Pwp.ret ?_|(refine hK _ ?_;clear hK K)|(refine hK _ _ rfl ?_;clear hK K)|refine CallG.off ?_|with_reducible refine Or.inl ?_|simp only [thenS,blockS]|with_reducible refine And.intro ?_ ?_|with_reducible exact True.intro|simp (dsimp:=false) only [↓gq,↓stepP,↓stepG,go_sem,hg,c1,w1,hl,hn,hq])
        all_goals (try (first|(intro hg;simp [hg];done)|exact of_decide_eq_true rfl|(cases h;done)))
        exact ⟨_, Sub.view V0 (by simp [L68]) rfl (by simp [L68]) (by simp [L68]), hok', rfl⟩
    · rintro s ⟨hok, rfl⟩
      have c1 := dge (Nat.le_refl ws.length)
      rw [List.take_length] at hok
      have hr : (ws.all fun w => !badW w) = true := by rw [List.all_eq_true]; intro x hx; rw [hok x hx]; rfl
      rw [hr]
      unfold L68
      repeat' (first|((first|refine goA rfl fun K hK=>?_|refine goB rfl fun K hK=>?_|refine goC rfl rfl fun K hK=>?_|refine goD rfl rfl fun K hK=>?_);simp (dsimp:=false) only [↓gq,↓stepP,↓stepG,go_sem,c1])|refine Pwp.seq ?_|refine Pwp.block ?_|(refine Pwp.exit ?_;simp only [thenS,blockS,if_true,if_false,reduceIte,Nat.reduceEqDiff,Nat.add_one_ne_zero,reduceCtorEq])|(refine Pwp.skip ?_;simp only [thenS,blockS])|(refine Pwp.cond rfl True.intro (fun h=>?_) (fun h=>?_)<;>(try (cases h;done))<;>(try simp only [h]))|refine Pwp.ret ?_|(refine hK _ ?_;clear hK K)|(refine hK _ _ rfl ?_;clear hK K)|refine CallG.off ?_|with_reducible refine Or.inl ?_|simp only [thenS,blockS]|with_reducible refine And.intro ?_ ?_|with_reducible exact True.intro|simp (dsimp:=false) only [↓gq,↓stepP,↓stepG,go_sem,c1])
      all_goals (try (first|(intro hg;simp [hg];done)|exact of_decide_eq_true rfl|(cases h;done)))
      (refine Fin.data (.inr rfl) (by simp (dsimp:=false) only [↓gq,↓stepP,↓stepG,go_sem,resL]; rfl) (by simp only [and_self]) (by simp (dsimp:=false) only [↓gq,↓stepP,↓stepG,go_sem,resP,Nat.le_refl,List.take_length]; try rfl) ?_)
      exact subD_refl _
def bxB (l : List Item) : PObj := .box [.d (I64 0), .d (.slc 8 (itemsD l)), .d (.slc 3 [])]
end Go.Proofs.Ytdodgbhodkcckaa.Pv
end
section
set_option linter.unusedVariables false
set_option linter.unusedSimpArgs false
set_option autoImplicit false
namespace Go.Proofs.Ytdodgbhodkcckaa.Pv
open Go Go.RowKit
structure RelP (p q : VP) : Prop where
  me : q.me = p.me
  n : q.n = p.n
  pm : q.list.Perm p.list
  one : ∀ x ∈ p.list, x.state = 1 → x.lines = []
  st : ∀ x ∈ p.list, 1 ≤ x.state ∧ x.state ≤ 5
  cy : ∀ x ∈ p.list, 1 ≤ x.cycle
theorem find_rel {p q : VP} (hr : Rising Part.cycle p.list) (h : RelP p q) (n : Int) : (fndC n 0 q.list = -1 ∧ isC p.list n = false) ∨
    ∃ k : Nat, fndC n 0 q.list = (k : Int) ∧ q.list[k]? = some (getC p.list n) ∧ isC p.list n = true ∧ getC p.list n ∈ p.list ∧ (getC p.list n).cycle = n := by
  rcases fndC_at n q.list 0 with ⟨h1, h2⟩ | ⟨k, y, h1, h2, h3⟩
  · left
    refine ⟨h1, ?_⟩
    have hs : seek Part.cycle p.list n = none := (seek_none_iff hr).2 fun y hy => h2 y (h.pm.mem_iff.2 hy)
    rw [isC_seek hr, hs]; rfl
  · right
    have hy := h.pm.mem_iff.1 (List.mem_of_getElem? h2)
    have hs : seek Part.cycle p.list n = some y := (seek_some_iff hr).2 ⟨hy, h3⟩
    have hg : getC p.list n = y := by rw [getC_seek hr, hs]; rfl
    refine ⟨k, by rw [h1, Nat.zero_add], by rw [hg]; exact h2, by rw [isC_seek hr, hs]; rfl, by rw [hg]; exact hy, by rw [hg]; exact h3⟩
theorem withL_perm {l w : List Part} (hr : Rising Part.cycle l) (hp : w.Perm l) (x : Part) : (withL w x).Perm (putC l x) := by
  rw [putC_enter hr]
  unfold withL
  rcases fndC_at x.cycle w 0 with ⟨h1, h2⟩ | ⟨k, y, h1, h2, h3⟩
  · have h3 : seek Part.cycle l x.cycle = none := (seek_none_iff hr).2 fun y hy => h2 y (hp.mem_iff.2 hy)
    rw [h1, if_pos (by decide)]
    have e := enter_none (k := Part.cycle) (y := x) h3
    rw [← e]
    refine List.Perm.trans ?_ List.perm_middle.symm
    refine (List.perm_append_comm).trans ?_
    show (x :: w).Perm _
    refine List.Perm.cons x (hp.trans ?_)
    rw [List.take_append_drop]
  · have hy := hp.mem_iff.1 (List.mem_of_getElem? h2)
    have h4 : seek Part.cycle l x.cycle = some y := (seek_some_iff hr).2 ⟨hy, h3⟩
    rw [h1, Nat.zero_add, if_neg (by omega), Int.toNat_natCast]
    have hl : l = below Part.cycle l x.cycle ++ y :: rest Part.cycle l x.cycle := by
      rw [← rest_some h4, split_at]
    have e : enter Part.cycle x l = below Part.cycle l x.cycle ++ x :: rest Part.cycle l x.cycle := rfl
    rw [e]
    refine set_perm h2 ?_ x
    rw [← hl]
    exact hp
theorem RelP.put {p q : VP} (hr : Rising Part.cycle p.list) (h : RelP p q) {x : Part} (h1 : x.state = 1 → x.lines = []) (h2 : 1 ≤ x.state ∧ x.state ≤ 5) (h3 : 1 ≤ x.cycle) : RelP { p with list := putC p.list x } { q with list := withL q.list x } := by
  have hm : ∀ y ∈ putC p.list x, y = x ∨ y ∈ p.list := fun y hy => by
    rw [putC_enter hr] at hy
    rcases (mem_enter hr).1 hy with h | ⟨h, _⟩
    · exact .inl h
    · exact .inr h
  refine ⟨h.me, h.n, withL_perm hr h.pm x, fun y hy => ?_, fun y hy => ?_, fun y hy => ?_⟩
  · rcases hm y hy with rfl | hy
    · exact h1
    · exact h.one y hy
  · rcases hm y hy with rfl | hy
    · exact h2
    · exact h.st y hy
  · rcases hm y hy with rfl | hy
    · exact h3
    · exact h.cy y hy
theorem keepAll_rel {me : Int} {n : Int} : ∀ (ys l w : List Item), RelI me l w → (∀ x ∈ ys, Fine (withC n x) ∧ ((withC n x).seller = me ∨ (withC n x).buyer = me)) → RelI me (foldB (withC n) ys l) (keepAll n ys w)
  | [], l, w, h, _ => h
  | x :: ys, l, w, h, hx => by
    rw [foldB_cons]
    show RelI me _ (keepAll n ys (keepL2 w (withC n x)))
    exact keepAll_rel ys _ _ (keep_perm h (hx x (by simp)).1 (hx x (by simp)).2) fun y hy => hx y (by simp [hy])
theorem end_rel {me : Int} {l w : List Item} (h : RelI me l w) (n : Int) (hn : n ≠ 0) (yes : Bool) (ls : List Line) : RelI me (foldB (endI yes ls) (keepF (notHeld n) l) l) (w.map (gEnd yes ls n)) := by
  obtain ⟨e1, e2⟩ := end_map h.gd n yes ls
  refine ⟨e2, ?_⟩
  rw [e1]
  have e : l.map (fun x => if x ∈ keepF (notHeld n) l then endI yes ls x else x) = l.map (gEnd yes ls n) := by
    refine List.map_congr_left fun x hx => ?_
    unfold gEnd
    cases hs : skipE n x with
    | true =>
      rw [if_pos rfl, if_neg]
      intro h2
      obtain ⟨_, h3, h4, _⟩ := held_spec.1 h2
      unfold skipE at hs
      rw [h3, h4] at hs; simp at hs
    | false =>
      unfold skipE at hs
      simp only [Bool.or_eq_false_iff, bne_eq_false_iff_eq] at hs
      rw [if_pos (held_spec.2 ⟨hx, hs.1, hs.2, hn⟩), if_neg (by simp)]
  rw [e]
  exact h.pm.map _
theorem voteR_kinds (p : VP) (l : List Item) (m : VMsg) (f : Int) : voteR p l m f = if refBad m f = true then ⟨110, p, l, none⟩ else if (f != -1 && f != p.n) = true then ⟨140, p, l, none⟩
    else if (m.kind == 10) = true then askR p l m.msg else if (m.kind == 12) = true then prepR p l m.msg m.ls m.ns else if (m.kind == 16) = true then dueC p l m.msg else decR p l m.msg := by
  unfold voteR voteK gateV refBad
  have e : m.msg.kind = m.kind := rfl
  rw [e]
  by_cases k1 : m.kind = 10
  · simp [k1]
  · by_cases k2 : m.kind = 12
    · simp [k2]
    · by_cases k3 : m.kind = 14
      · simp [k3]
      · by_cases k4 : m.kind = 16
        · simp [k4]
        · simp [k1, k2, k3, k4]
theorem open_late {x : Part} (h : 1 ≤ x.state ∧ x.state ≤ 5) : openC x = !decide (3 < x.state) := by
  unfold openC
  rw [Bool.eq_iff_iff]
  simp only [Bool.or_eq_true, beq_iff_eq, Bool.not_eq_true', decide_eq_false_iff_not]
  omega
theorem do_rel {me : Int} {p q : VP} {l w : List Item} {m : VMsg} {f : Int} {k : Nat} (hP : PGd p k) (hR : RelI me l w) (hQ : RelP p q) :
    (refDo q l w m f).e = (voteR p l m f).e ∧ (refDo q l w m f).o = (voteR p l m f).o ∧ RelP (voteR p l m f).p (refDo q l w m f).q ∧ RelI me (voteR p l m f).l (refDo q l w m f).w := by
  rw [voteR_kinds]
  unfold refDo
  rw [hQ.n]
  cases hbad : refBad m f with
  | true => exact ⟨by first | rfl | trivial, by first | rfl | trivial, hQ, hR⟩
  | false =>
    simp only [Bool.false_eq_true, if_false, if_true, reduceIte]
    cases (f != -1 && f != p.n) with
    | true => exact ⟨by first | rfl | trivial, by first | rfl | trivial, hQ, hR⟩
    | false =>
      simp only [Bool.false_eq_true, if_false, if_true, reduceIte]
      cases h10 : (m.kind == 10) with
      | true =>
        simp only [Bool.false_eq_true, if_false, if_true, reduceIte]
        unfold askRR askR
        rw [askBadR_is]
        cases hb : askBad m.msg with
        | true => exact ⟨by first | rfl | trivial, by first | rfl | trivial, hQ, hR⟩
        | false =>
          simp only [Bool.false_eq_true, if_false, if_true, reduceIte]
          obtain ⟨b1, b2, _, _⟩ := askBad_ok hb
          rcases find_rel hP.rise hQ m.msg.cycle with ⟨h1, h2⟩ | ⟨k, h1, _, h2, _⟩
          · have d1 : decide ((0 : Int) ≤ -1) = false := rfl
            rw [h1, h2, d1, hQ.n]
            simp only [Bool.false_eq_true, if_false, if_true, reduceIte]
            have A := RelP.put hP.rise hQ (x := ⟨m.msg.cycle, m.msg.currency, 1, []⟩) (fun _ => rfl) (by simp) b1
            rw [hQ.n] at A
            exact ⟨by first | rfl | trivial, by first | rfl | trivial, A, keepAll_rel _ _ _ hR (ask_ok hR.gd ⟨b1, b2⟩)⟩
          · have d1 : decide ((0 : Int) ≤ (k : Int)) = true := decide_eq_true (by omega)
            rw [h1, h2, d1]
            simp only [Bool.false_eq_true, if_false, if_true, reduceIte]
            exact ⟨by first | rfl | trivial, by first | rfl | trivial, hQ, hR⟩
      | false =>
        simp only [Bool.false_eq_true, if_false, if_true, reduceIte]
        have ec : m.msg.cycle = m.cycle := rfl
        rcases find_rel hP.rise hQ m.cycle with ⟨h1, h2⟩ | ⟨k, h1, h3, h2, h4, h5⟩
        · have d1 : decide ((-1 : Int) < 0) = true := rfl
          unfold prepR dueC decR
          rw [ec, h1, h2, d1]
          simp only [Bool.false_eq_true, if_false, if_true, reduceIte]
          split
          · exact ⟨by first | rfl | trivial, by first | rfl | trivial, hQ, hR⟩
          · split
            · exact ⟨by first | rfl | trivial, by first | rfl | trivial, hQ, hR⟩
            · exact ⟨by first | rfl | trivial, by first | rfl | trivial, hQ, hR⟩
        · have hp : partAt q m.cycle = getC p.list m.cycle := by unfold partAt; rw [h1, Int.toNat_natCast, h3]; rfl
          have hst := hQ.st _ h4
          have hone := hQ.one _ h4
          have hcy := hQ.cy _ h4
          have ho := open_late hst
          unfold refLate prepR dueC decR decBad
          have d1 : decide ((k : Int) < 0) = false := decide_eq_false (by omega)
          rw [h1, hp, ec, h2, ho, hQ.me, d1]
          simp only [Bool.false_eq_true, if_false, if_true, reduceIte, Bool.true_eq_false]
          generalize getC p.list m.cycle = z at *
          cases h12 : (m.kind == 12) with
          | true =>
            simp only [Bool.false_eq_true, if_false, if_true, reduceIte]
            cases hz : (z.state != 1) with
            | true => exact ⟨by first | rfl | trivial, by first | rfl | trivial, hQ, hR⟩
            | false =>
              simp only [Bool.false_eq_true, if_false, if_true, reduceIte]
              have hr : rightR q l m.cycle m.ls m.ns = rightR p l m.cycle m.ls m.ns := by unfold rightR; rw [hQ.n, hQ.me]
              rw [hr, hone (by simpa using hz), List.nil_append]
              cases rightR p l m.cycle m.ls m.ns with
              | true =>
                have A := RelP.put hP.rise hQ (x := { z with state := 2, lines := mineL p.me m.ls }) (by simp) (by simp) hcy
                rw [hQ.n, hQ.me] at A
                exact ⟨by first | rfl | trivial, by first | rfl | trivial, A, hR⟩
              | false =>
                have A := RelP.put hP.rise hQ (x := { z with state := 3 }) (by simp) (by simp) hcy
                rw [hQ.n, hQ.me, hone (by simpa using hz)] at A
                exact ⟨by first | rfl | trivial, by first | rfl | trivial, A, hR⟩
          | false =>
            simp only [Bool.false_eq_true, if_false, if_true, reduceIte]
            cases h16 : (m.kind == 16) with
            | true =>
              have h14 : (m.kind == 14) = false := by simp only [beq_iff_eq] at h16; rw [h16]; rfl
              rw [h14]
              cases decide (3 < z.state) with
              | true => exact ⟨by first | rfl | trivial, by first | rfl | trivial, hQ, hR⟩
              | false => exact ⟨by first | rfl | trivial, by first | rfl | trivial, hQ, hR⟩
            | false =>
              have h14 : (m.kind == 14) = true := by
                unfold refBad at hbad
                simp only [bne, h10, h12, h16, Bool.not_false, Bool.true_and, Bool.and_true, Bool.or_eq_false_iff, Bool.not_eq_false'] at hbad
                exact hbad.1
              have ey : m.msg.yes = m.yes := rfl
              rw [h14, ey, Bool.true_and, Bool.not_not]
              cases (decide (3 < z.state) || (m.yes && z.state != 2)) with
              | true => exact ⟨by first | rfl | trivial, by first | rfl | trivial, hQ, hR⟩
              | false =>
                simp only [Bool.false_eq_true, if_false, if_true, reduceIte]
                have A := RelP.put hP.rise hQ (x := { z with state := if m.yes = true then 4 else 5 }) (fun h => by simp only at h; split at h <;> omega) (by simp only; split <;> omega) hcy
                rw [hQ.n, hQ.me] at A
                exact ⟨by first | rfl | trivial, by first | rfl | trivial, A, end_rel hR m.cycle (by omega) m.yes z.lines⟩
theorem fill_rel (a : List Item) : RelI 0 (fillS a).1 (fillS a).2 := by
  have key : ∀ (a : List Item) (s : List Item × List Item), RelI 0 s.1 s.2 → RelI 0 (a.foldl (fun s x => if putE 0 s.1 x = 0 then (putIn s.1 x, keepL2 s.2 x) else s) s).1 (a.foldl (fun s x => if putE 0 s.1 x = 0 then (putIn s.1 x, keepL2 s.2 x) else s) s).2 := by
    intro a
    induction a with
    | nil => intro s h; exact h
    | cons x a ih =>
      intro s h
      simp only [List.foldl_cons]
      apply ih
      split
      · rename_i he
        have h2 := putE_zero.1 he
        exact keep_perm h h2.1 h2.2.1
      · exact h
  exact key a ([], []) ⟨⟨List.Pairwise.nil, by simp, by simp⟩, List.Perm.refl _⟩
theorem voteR_o (p : VP) (l : List Item) (m : VMsg) (f : Int) : (voteR p l m f).o = none ∨ ∃ (M : Msg) (ls : List Line), (voteR p l m f).o = some (saidD p.n M) ∧ (M.lines = nilD ∧ ls = [] ∨ M.lines = .slc 4 (linesD ls)) ∧ M.nets = nilD ∧ ls.length ≤ 128 := by
  refine voteR_cases (fun R => R.o = none ∨ ∃ (M : Msg) (ls : List Line), R.o = some (saidD p.n M) ∧ (M.lines = nilD ∧ ls = [] ∨ M.lines = .slc 4 (linesD ls)) ∧ M.nets = nilD ∧ ls.length ≤ 128) ?_ ?_ ?_ ?_ ?_
  · intro e _; exact .inl rfl
  · intro _ _ _ _
    exact .inr ⟨_, _, rfl, .inr rfl, rfl, by rw [List.length_map]; exact askL_len _ _⟩
  · intro _ _ _ _
    split
    · exact .inr ⟨_, [], rfl, .inl ⟨rfl, rfl⟩, rfl, by simp⟩
    · exact .inr ⟨_, [], rfl, .inl ⟨rfl, rfl⟩, rfl, by simp⟩
  · intro _ _ _ _; exact .inl rfl
  · intro _ _ _; exact .inr ⟨_, [], rfl, .inl ⟨rfl, rfl⟩, rfl, by simp⟩
end Go.Proofs.Ytdodgbhodkcckaa.Pv
end
section
set_option linter.unusedVariables false
set_option linter.unusedSimpArgs false
set_option autoImplicit false
set_option maxRecDepth 100000
namespace Go.Proofs.Ytdodgbhodkcckaa.Pv
open Go Go.RowKit
theorem run71 (p q : VP) (me : Int) (l w : List Item) (m : VMsg) (f : Int) {k : Nat} (hP : PGd p k) (hQ : RelP p q) (hR : RelI me l w) (hk : k ≤ 10000) (hw : w.length ≤ 10000) (hls : m.ls.length ≤ 1000) (hns : m.ns.length ≤ 1000) (hin : ∀ x ∈ m.ls, In64 x.number) :
    Runs Try.prog 71 [.d q.dN, .d (rdD w).d, .d m.msg.d, pint .i64 f] [] (.d (rvD (refDo q l w m f))) [] := by
  have hql : q.list.length ≤ 10000 := by have := hQ.pm.length_eq; have := hP.pl; omega
  cases hb : refBad m f with
  | true => exact run71a q me l w m f hR hw hql (.inl hb)
  | false =>
    cases hc : (f != -1 && f != q.n) with
    | true => exact run71a q me l w m f hR hw hql (.inr (.inl hc))
    | false =>
      cases hk1 : (m.kind == 10) with
      | true => exact run71a q me l w m f hR hw hql (.inr (.inr (by simpa using hk1)))
      | false =>
        rcases find_rel hP.rise hQ m.cycle with ⟨h1, h2⟩ | ⟨j, h1, h3, h2, h4, h5⟩
        · exact run71b q l w m f hql hb hc hk1 h1
        · have hst := hQ.st _ h4
          have hone := hQ.one _ h4
          have hcy := hQ.cy _ h4
          have hzl := hP.ls _ h4
          cases hk2 : (m.kind == 12) with
          | true => exact run71d q me l w m f hR hw hql hls hns hin hb hc hk2 h1 h3 hone h5
          | false =>
            cases hlt : refLate q m with
            | true => exact run71c q l w m f hql hb hc hk1 hk2 h1 h3 (.inl hlt)
            | false =>
              cases hk3 : (m.kind == 16) with
              | true => exact run71c q l w m f hql hb hc hk1 hk2 h1 h3 (.inr hk3)
              | false => exact run71f q me l w m f hR hw hql hb hc hk1 hk2 hk3 h1 h3 h5 (by omega) (by omega) hlt
def bxPn (p : VP) : PObj := .box [.d (I64 p.me), .d (I64 p.n), .d (.slc 4 (partsL p.list))]
def L73a (p q : VP) (l w : List Item) (i : Nat) : St :=
  ⟨[(36, pint .i64 i), (35, pint .i64 p.list.length), (34, .d (.slc 4 (partsL p.list))), (7, .ref 11 0), (6, .ref 10 0), (5, .ref 9 0), (4, .ref 8 0)], [(8, bxPn p), (9, bxB l), (10, boxQ q), (11, boxR w)], 108⟩
def L73b (l w : List Item) (i : Nat) : St :=
  ⟨[(94, pint .i64 i), (93, pint .i64 w.length), (92, .d (.slc 8 (itemsD w))), (5, .ref 9 0)], [(9, bxB l)], 368⟩
set_option maxHeartbeats 64000000 in
theorem run73 (p q : VP) (l w : List Item) {k : Nat} (hP : PGd p k) (hQ : RelP p q) (hR : RelI 0 l w) (hk : k ≤ 10000) (hw : w.length ≤ 10000) : Runs Try.prog 73 [.d p.d, .d (bookD 0 l []), .d q.dN, .d (rdD w).d] [] (pbool true) [] := by
  have hpl := hP.pl
  have hqp := hQ.pm.length_eq
  have hlw := hR.pm.length_eq
  have l1 := parts_len p.list
  have l2 := partsN_len q.list
  have l3 := items_len l
  have l4 := items_len w
  have n1 : ((p.list.length : Int) != (q.list.length : Int)) = false := by rw [hqp, bne_self_eq_false]
  have n2 : ((l.length : Int) != (w.length : Int)) = false := by rw [hlw, bne_self_eq_false]
  unfold VP.d VP.cells bookD VP.dN rdD RDesk.d RDesk.cells
  refine Runs.of (kit Try.prog) Try.func73 rfl rfl (by rw [Try.ntmps73]; exact of_decide_eq_true rfl) ?_; rw [Try.ntmps73, Try.results73]
  repeat' (first|((first|refine goA rfl fun K hK=>?_|refine goB rfl fun K hK=>?_|refine goC rfl rfl fun K hK=>?_|refine goD rfl rfl fun K hK=>?_);simp (dsimp:=false) only [↓gq,↓stepP,↓stepG,go_sem,l1,l2,l3,l4,n1,n2])|refine Pwp.seq ?_|refine Pwp.block ?_|(refine Pwp.exit ?_;simp only [thenS,blockS,if_true,if_false,reduceIte,Nat.reduceEqDiff,Nat.add_one_ne_zero,reduceCtorEq])|(refine Pwp.skip ?_;simp only [thenS,blockS])|(refine Pwp.cond rfl True.intro (fun h=>?_) (fun h=>?_)<;>(try (cases h;done))<;>(try simp only [h]))|refine Pwp.ret ?_|(refine hK _ ?_;clear hK K)|(refine hK _ _ rfl ?_;clear hK K)|refine CallG.off ?_|with_reducible refine Or.inl ?_|simp only [thenS,blockS]|with_reducible refine And.intro ?_ ?_|with_reducible exact True.intro|simp (dsimp:=false) only [↓gq,↓stepP,↓stepG,go_sem,l1,l2,l3,l4,n1,n2])
  all_goals (try (first|(intro hg;simp [hg];done)|exact of_decide_eq_true rfl|(cases h;done)))
  refine Pwp.range p.list.length (S := L73a p q l w) (Sub.view V0 (by simp [L73a]) rfl (by simp [L73a,bxPn,bxB,boxQ,boxR,l1]) (by simp [L73a,bxPn,bxB,boxQ,boxR,l1])) (fun i hi => ?_) ?_
  · obtain ⟨x, hx, hm⟩ := at_lt hi
    have hg := parts_get hx
    have c1 := dlt hi
    have w1 := wrap_succ (i := i) (by omega)
    have r127 := run127 q x.cycle (by omega)
    have hgc : getC p.list x.cycle = x := by
      rw [getC_seek hP.rise, (seek_some_iff hP.rise).2 ⟨hm, rfl⟩]; rfl
    have hin : isC p.list x.cycle = true := by rw [isC_seek hP.rise, (seek_some_iff hP.rise).2 ⟨hm, rfl⟩]; rfl
    obtain ⟨j, j1, j2⟩ : ∃ j : Nat, fndC x.cycle 0 q.list = (j : Int) ∧ q.list[j]? = some x := by
      rcases find_rel hP.rise hQ x.cycle with ⟨_, h2⟩ | ⟨j, h1, h3, _⟩
      · rw [hin] at h2; cases h2
      · exact ⟨j, h1, by rw [h3, hgc]⟩
    rw [j1] at r127
    have hgq := partsN_get j2
    have cm : decide ((j : Int) < 0) = false := decide_eq_false (by omega)
    have tj := Int.toNat_natCast j
    have pj : (0 : Int) ≤ (j : Int) := by omega
    have rS := run72e ⟨0, 0, 0, 0, 0, 0, 0, 0, false, x.lines, []⟩ (by have := hP.ls x hm; simp only; omega) (by simp)
    obtain ⟨xc, xu, xs, xl⟩ := x
    simp only [VMsg.msg, Msg.d, Msg.cells, List.map_nil] at rS
    simp only at hg hgq r127
    rcases Nat.eq_zero_or_pos i with h0 | hpos
    · have c2 : decide ((0 : Int) < (i : Int)) = false := decide_eq_false (by omega)
      have w0 : IntKind.i64.wrap ((i : Int) - 1) = -1 := by rw [h0]; exact wrap_of (by omega) (by omega)
      have t0 : Int.toNat (-1) = 0 := rfl
      have hg0 := hg
      rw [h0] at hg0
      unfold VP.dN at r127
      unfold L73a bxPn bxB boxQ boxR
      cases xl
      · unfold linesN at hgq
        repeat' (first|((first|refine goA rfl fun K hK=>?_|refine goB rfl fun K hK=>?_|refine goC rfl rfl fun K hK=>?_|refine goD rfl rfl fun K hK=>?_);simp (dsimp:=false) only [↓gq,↓stepP,↓stepG,go_sem,hg,hg0,hgq,c1,c2,w1,w0,t0,cm,tj,pj,bne_self_eq_false,Bool.not_true,Bool.or_self])|refine Pwp.seq ?_|refine Pwp.block ?_|(refine Pwp.exit ?_;simp only [thenS,blockS,if_true,if_false,reduceIte,Nat.reduceEqDiff,Nat.add_one_ne_zero,reduceCtorEq])|(refine Pwp.skip ?_;simp only [thenS,blockS])|(refine Pwp.cond rfl True.intro (fun h=>?_) (fun h=>?_)<;>(try (cases h;done))<;>(try simp only [h]))|refine Pwp.ret ?_|(refine hK _ ?_;clear hK K)|(refine hK _ _ rfl ?_;clear hK K)|(refine CallG.toDS (ds:=[.agg [I64 0, I64 0, I64 0, I64 0, I64 0, I64 0, I64 0, I64 0, .v (.bool false), .slc 4 (linesD _), nilD], .agg [I64 0, I64 0, I64 0, I64 0, I64 0, I64 0, I64 0, I64 0, .v (.bool false), _, nilD]]) (es:=[.agg [I64 0, I64 0, I64 0, I64 0, I64 0, I64 0, I64 0, I64 0, .v (.bool false), .slc 4 (linesD _), .slc 1 []], .agg [I64 0, I64 0, I64 0, I64 0, I64 0, I64 0, I64 0, I64 0, .v (.bool false), .slc 4 (linesD _), .slc 1 []]]) rfl (by simp [subL, subD, subV, subD_refl, linesD]) rS rfl ?_ ?_)|(refine CallK.toD (ds:=[.agg [I64 q.me, I64 q.n, .slc 4 (partsN q.list)], I64 xc]) rfl (r127) rfl ?_)|refine CallG.off ?_|with_reducible refine Or.inl ?_|simp only [thenS,blockS]|with_reducible refine And.intro ?_ ?_|with_reducible exact True.intro|simp (dsimp:=false) only [↓gq,↓stepP,↓stepG,go_sem,hg,hg0,hgq,c1,c2,w1,w0,t0,cm,tj,pj,bne_self_eq_false,Bool.not_true,Bool.or_self])
        all_goals (try (first|(intro hg;simp [hg];done)|exact of_decide_eq_true rfl|(cases h;done)))
        all_goals (try (intro hg; simp only [hg, Bool.not_false, Bool.not_true, Bool.and_self, Bool.true_and, Bool.and_true, true_and, and_self, imp_self, implies_true]; done))
        exact Sub.view V0 (by simp [L73a]) rfl (by simp [L73a,bxPn,bxB,boxQ,boxR]) (by simp [L73a,bxPn,bxB,boxQ,boxR])
      · unfold linesN at hgq
        repeat' (first|((first|refine goA rfl fun K hK=>?_|refine goB rfl fun K hK=>?_|refine goC rfl rfl fun K hK=>?_|refine goD rfl rfl fun K hK=>?_);simp (dsimp:=false) only [↓gq,↓stepP,↓stepG,go_sem,hg,hg0,hgq,c1,c2,w1,w0,t0,cm,tj,pj,bne_self_eq_false,Bool.not_true,Bool.or_self])|refine Pwp.seq ?_|refine Pwp.block ?_|(refine Pwp.exit ?_;simp only [thenS,blockS,if_true,if_false,reduceIte,Nat.reduceEqDiff,Nat.add_one_ne_zero,reduceCtorEq])|(refine Pwp.skip ?_;simp only [thenS,blockS])|(refine Pwp.cond rfl True.intro (fun h=>?_) (fun h=>?_)<;>(try (cases h;done))<;>(try simp only [h]))|refine Pwp.ret ?_|(refine hK _ ?_;clear hK K)|(refine hK _ _ rfl ?_;clear hK K)|(refine CallG.toDS (ds:=[.agg [I64 0, I64 0, I64 0, I64 0, I64 0, I64 0, I64 0, I64 0, .v (.bool false), .slc 4 (linesD _), nilD], .agg [I64 0, I64 0, I64 0, I64 0, I64 0, I64 0, I64 0, I64 0, .v (.bool false), _, nilD]]) (es:=[.agg [I64 0, I64 0, I64 0, I64 0, I64 0, I64 0, I64 0, I64 0, .v (.bool false), .slc 4 (linesD _), .slc 1 []], .agg [I64 0, I64 0, I64 0, I64 0, I64 0, I64 0, I64 0, I64 0, .v (.bool false), .slc 4 (linesD _), .slc 1 []]]) rfl (by simp [subL, subD, subV, subD_refl, linesD]) rS rfl ?_ ?_)|(refine CallK.toD (ds:=[.agg [I64 q.me, I64 q.n, .slc 4 (partsN q.list)], I64 xc]) rfl (r127) rfl ?_)|refine CallG.off ?_|with_reducible refine Or.inl ?_|simp only [thenS,blockS]|with_reducible refine And.intro ?_ ?_|with_reducible exact True.intro|simp (dsimp:=false) only [↓gq,↓stepP,↓stepG,go_sem,hg,hg0,hgq,c1,c2,w1,w0,t0,cm,tj,pj,bne_self_eq_false,Bool.not_true,Bool.or_self])
        all_goals (try (first|(intro hg;simp [hg];done)|exact of_decide_eq_true rfl|(cases h;done)))
        all_goals (try (intro hg; simp only [hg, Bool.not_false, Bool.not_true, Bool.and_self, Bool.true_and, Bool.and_true, true_and, and_self, imp_self, implies_true]; done))
        exact Sub.view V0 (by simp [L73a]) rfl (by simp [L73a,bxPn,bxB,boxQ,boxR]) (by simp [L73a,bxPn,bxB,boxQ,boxR])
    · obtain ⟨y, hy, hym⟩ := at_lt (l := p.list) (i := i - 1) (by omega)
      have hgy := parts_get hy
      have c2 := dpos hpos
      have w2 := wpred hpos (by omega)
      have hlt : y.cycle < xc := by
        have := List.pairwise_iff_getElem.1 hP.rise (i - 1) i (by omega) hi (by omega)
        obtain ⟨_, e1⟩ := List.getElem?_eq_some_iff.1 hy
        obtain ⟨_, e2⟩ := List.getElem?_eq_some_iff.1 hx
        rw [e1, e2] at this
        exact this
      have c3 : decide (xc ≤ y.cycle) = false := decide_eq_false (by omega)
      have ti := Int.toNat_natCast (i - 1)
      have pi : (0 : Int) ≤ ((i - 1 : Nat) : Int) := by omega
      unfold VP.dN at r127
      unfold L73a bxPn bxB boxQ boxR
      cases xl
      · unfold linesN at hgq
        repeat' (first|((first|refine goA rfl fun K hK=>?_|refine goB rfl fun K hK=>?_|refine goC rfl rfl fun K hK=>?_|refine goD rfl rfl fun K hK=>?_);simp (dsimp:=false) only [↓gq,↓stepP,↓stepG,go_sem,hg,hgq,hgy,c1,c2,c3,w1,w2,cm,tj,pj,ti,pi,bne_self_eq_false,Bool.not_true,Bool.or_self])|refine Pwp.seq ?_|refine Pwp.block ?_|(refine Pwp.exit ?_;simp only [thenS,blockS,if_true,if_false,reduceIte,Nat.reduceEqDiff,Nat.add_one_ne_zero,reduceCtorEq])|(refine Pwp.skip ?_;simp only [thenS,blockS])|(refine Pwp.cond rfl True.intro (fun h=>?_) (fun h=>?_)<;>(try (cases h;done))<;>(try simp only [h]))|refine Pwp.ret ?_|(refine hK _ ?_;clear hK K)|(refine hK _ _ rfl ?_;clear hK K)|(refine CallG.toDS (ds:=[.agg [I64 0, I64 0, I64 0, I64 0, I64 0, I64 0, I64 0, I64 0, .v (.bool false), .slc 4 (linesD _), nilD], .agg [I64 0, I64 0, I64 0, I64 0, I64 0, I64 0, I64 0, I64 0, .v (.bool false), _, nilD]]) (es:=[.agg [I64 0, I64 0, I64 0, I64 0, I64 0, I64 0, I64 0, I64 0, .v (.bool false), .slc 4 (linesD _), .slc 1 []], .agg [I64 0, I64 0, I64 0, I64 0, I64 0, I64 0, I64 0, I64 0, .v (.bool false), .slc 4 (linesD _), .slc 1 []]]) rfl (by simp [subL, subD, subV, subD_refl, linesD]) rS rfl ?_ ?_)|(refine CallK.toD (ds:=[.agg [I64 q.me, I64 q.n, .slc 4 (partsN q.list)], I64 xc]) rfl (r127) rfl ?_)|refine CallG.off ?_|with_reducible refine Or.inl ?_|simp only [thenS,blockS]|with_reducible refine And.intro ?_ ?_|with_reducible exact True.intro|simp (dsimp:=false) only [↓gq,↓stepP,↓stepG,go_sem,hg,hgq,hgy,c1,c2,c3,w1,w2,cm,tj,pj,ti,pi,bne_self_eq_false,Bool.not_true,Bool.or_self])
        all_goals (try (first|(intro hg;simp [hg];done)|exact of_decide_eq_true rfl|(cases h;done)))
        all_goals (try (intro hg; simp only [hg, Bool.not_false, Bool.not_true, Bool.and_self, Bool.true_and, Bool.and_true, true_and, and_self, imp_self, implies_true]; done))
        exact Sub.view V0 (by simp [L73a]) rfl (by simp [L73a,bxPn,bxB,boxQ,boxR]) (by simp [L73a,bxPn,bxB,boxQ,boxR])
      · unfold linesN at hgq
        repeat' (first|((first|refine goA rfl fun K hK=>?_|refine goB rfl fun K hK=>?_|refine goC rfl rfl fun K hK=>?_|refine goD rfl rfl fun K hK=>?_);simp (dsimp:=false) only [↓gq,↓stepP,↓stepG,go_sem,hg,hgq,hgy,c1,c2,c3,w1,w2,cm,tj,pj,ti,pi,bne_self_eq_false,Bool.not_true,Bool.or_self])|refine Pwp.seq ?_|refine Pwp.block ?_|(refine Pwp.exit ?_;simp only [thenS,blockS,if_true,if_false,reduceIte,Nat.reduceEqDiff,Nat.add_one_ne_zero,reduceCtorEq])|(refine Pwp.skip ?_;simp only [thenS,blockS])|(refine Pwp.cond rfl True.intro (fun h=>?_) (fun h=>?_)<;>(try (cases h;done))<;>(try simp only [h]))|refine Pwp.ret ?_|(refine hK _ ?_;clear hK K)|(refine hK _ _ rfl ?_;clear hK K)|(refine CallG.toDS (ds:=[.agg [I64 0, I64 0, I64 0, I64 0, I64 0, I64 0, I64 0, I64 0, .v (.bool false), .slc 4 (linesD _), nilD], .agg [I64 0, I64 0, I64 0, I64 0, I64 0, I64 0, I64 0, I64 0, .v (.bool false), _, nilD]]) (es:=[.agg [I64 0, I64 0, I64 0, I64 0, I64 0, I64 0, I64 0, I64 0, .v (.bool false), .slc 4 (linesD _), .slc 1 []], .agg [I64 0, I64 0, I64 0, I64 0, I64 0, I64 0, I64 0, I64 0, .v (.bool false), .slc 4 (linesD _), .slc 1 []]]) rfl (by simp [subL, subD, subV, subD_refl, linesD]) rS rfl ?_ ?_)|(refine CallK.toD (ds:=[.agg [I64 q.me, I64 q.n, .slc 4 (partsN q.list)], I64 xc]) rfl (r127) rfl ?_)|refine CallG.off ?_|with_reducible refine Or.inl ?_|simp only [thenS,blockS]|with_reducible refine And.intro ?_ ?_|with_reducible exact True.intro|simp (dsimp:=false) only [↓gq,↓stepP,↓stepG,go_sem,hg,hgq,hgy,c1,c2,c3,w1,w2,cm,tj,pj,ti,pi,bne_self_eq_false,Bool.not_true,Bool.or_self])
        all_goals (try (first|(intro hg;simp [hg];done)|exact of_decide_eq_true rfl|(cases h;done)))
        all_goals (try (intro hg; simp only [hg, Bool.not_false, Bool.not_true, Bool.and_self, Bool.true_and, Bool.and_true, true_and, and_self, imp_self, implies_true]; done))
        exact Sub.view V0 (by simp [L73a]) rfl (by simp [L73a,bxPn,bxB,boxQ,boxR]) (by simp [L73a,bxPn,bxB,boxQ,boxR])
  · have c1 := dge (Nat.le_refl p.list.length)
    unfold L73a bxPn bxB boxQ boxR
    repeat' (first|((first|refine goA rfl fun K hK=>?_|refine goB rfl fun K hK=>?_|refine goC rfl rfl fun K hK=>?_|refine goD rfl rfl fun K hK=>?_);simp (dsimp:=false) only [↓gq,↓stepP,↓stepG,go_sem,c1,l4])|refine Pwp.seq ?_|refine Pwp.block ?_|(refine Pwp.exit ?_;simp only [thenS,blockS,if_true,if_false,reduceIte,Nat.reduceEqDiff,Nat.add_one_ne_zero,reduceCtorEq])|(refine Pwp.skip ?_;simp only [thenS,blockS])|(refine Pwp.cond rfl True.intro (fun h=>?_) (fun h=>?_)<;>(try (cases h;done))<;>(try simp only [h]))|refine Pwp.ret ?_|(refine hK _ ?_;clear hK K)|(refine hK _ _ rfl ?_;clear hK K)|refine CallG.off ?_|with_reducible refine Or.inl ?_|simp only [thenS,blockS]|with_reducible refine And.intro ?_ ?_|with_reducible exact True.intro|simp (dsimp:=false) only [↓gq,↓stepP,↓stepG,go_sem,c1,l4])
    all_goals (try (first|(intro hg;simp [hg];done)|exact of_decide_eq_true rfl|(cases h;done)))
    refine Pwp.range w.length (S := L73b l w) (Sub.view V0 (by simp [L73b]) rfl (by simp [L73b,bxB,l4]) (by simp [L73b,bxB,l4])) (fun i hi => ?_) ?_
    · obtain ⟨x, hx, hm⟩ := at_lt hi
      have hg := items_at hx
      have c2 := dlt hi
      have w2 := wrap_succ (i := i) (by omega)
      obtain ⟨k1, k2⟩ := in_mem hR.gd (hR.pm.mem_iff.1 hm)
      have r65 := run65 0 l [] x.seller x.number (by omega)
      rw [k1, k2] at r65
      have hself : eqItm x x = true := eqItm_refl x
      unfold eqItm at hself
      unfold bookD Item.d Item.cells at r65
      unfold L73b bxB
      repeat' (first|((first|refine goA rfl fun K hK=>?_|refine goB rfl fun K hK=>?_|refine goC rfl rfl fun K hK=>?_|refine goD rfl rfl fun K hK=>?_);simp (dsimp:=false) only [↓gq,↓stepP,↓stepG,go_sem,hg,c2,w2,hself,beq_self_eq_true,Bool.and_self,Bool.not_true])|refine Pwp.seq ?_|refine Pwp.block ?_|(refine Pwp.exit ?_;simp only [thenS,blockS,if_true,if_false,reduceIte,Nat.reduceEqDiff,Nat.add_one_ne_zero,reduceCtorEq])|(refine Pwp.skip ?_;simp only [thenS,blockS])|(refine Pwp.cond rfl True.intro (fun h=>?_) (fun h=>?_)<;>(try (cases h;done))<;>(try simp only [h]))|refine Pwp.ret ?_|(refine hK _ ?_;clear hK K)|(refine hK _ _ rfl ?_;clear hK K)|(refine CallK.toD (ds:=[.agg [I64 0, .slc 8 (itemsD l), .slc 3 []], .agg [I64 x.seller, I64 x.number]]) rfl (r65) rfl ?_)|refine CallG.off ?_|with_reducible refine Or.inl ?_|simp only [thenS,blockS]|with_reducible refine And.intro ?_ ?_|with_reducible exact True.intro|simp (dsimp:=false) only [↓gq,↓stepP,↓stepG,go_sem,hg,c2,w2,hself,beq_self_eq_true,Bool.and_self,Bool.not_true])
      all_goals (try (first|(intro hg;simp [hg];done)|exact of_decide_eq_true rfl|(cases h;done)))
      all_goals (try (intro hg; simp only [hg, Bool.not_false, Bool.not_true, Bool.and_self, Bool.true_and, Bool.and_true, true_and, and_self, imp_self, implies_true]; done))
      exact Sub.view V0 (by simp [L73b]) rfl (by simp [L73b,bxB]) (by simp [L73b,bxB])
    · have c2 := dge (Nat.le_refl w.length)
      unfold L73b bxB
      repeat' (first|((first|refine goA rfl fun K hK=>?_|refine goB rfl fun K hK=>?_|refine goC rfl rfl fun K hK=>?_|refine goD rfl rfl fun K hK=>?_);simp (dsimp:=false) only [↓gq,↓stepP,↓stepG,go_sem,c2,l4])|refine Pwp.seq ?_|refine Pwp.block ?_|(refine Pwp.exit ?_;simp only [thenS,blockS,if_true,if_false,reduceIte,Nat.reduceEqDiff,Nat.add_one_ne_zero,reduceCtorEq])|(refine Pwp.skip ?_;simp only [thenS,blockS])|(refine Pwp.cond rfl True.intro (fun h=>?_) (fun h=>?_)<;>(try (cases h;done))<;>(try simp only [h]))|refine Pwp.ret ?_|(refine hK _ ?_;clear hK K)|(refine hK _ _ rfl ?_;clear hK K)|refine CallG.off ?_|with_reducible refine Or.inl ?_|simp only [thenS,blockS]|with_reducible refine And.intro ?_ ?_|with_reducible exact True.intro|simp (dsimp:=false) only [↓gq,↓stepP,↓stepG,go_sem,c2,l4])
      all_goals (try (first|(intro hg;simp [hg];done)|exact of_decide_eq_true rfl|(cases h;done)))
      (refine Fin.data (.inr rfl) (by simp (dsimp:=false) only [↓gq,↓stepP,↓stepG,go_sem,resL]; rfl) (by simp only [and_self]) (by simp (dsimp:=false) only [↓gq,↓stepP,↓stepG,go_sem,resP,Nat.le_refl,List.take_length]; try rfl) ?_)
      exact subD_refl _
end Go.Proofs.Ytdodgbhodkcckaa.Pv
end
section
set_option linter.unusedVariables false
set_option linter.unusedSimpArgs false
set_option autoImplicit false
set_option maxRecDepth 100000
namespace Go.Proofs.Ytdodgbhodkcckaa.Pv
open Go Go.RowKit
def bx2 (n : Int) (pl : List Part) : PObj := .box [.d (I64 0), .d (I64 n), .d (.slc 4 (partsL pl))]
def bx2n (n : Int) (ql : List Part) : PObj := .box [.d (I64 0), .d (I64 n), .d (.slc 4 (partsN ql))]
def L20 (ws : List VW) (n : Int) (pl ql : List Part) (l w : List Item) (i : Nat) : St :=
  ⟨[(49, pint .i64 i), (48, pint .i64 ws.length), (47, .d (.slc 12 (vwsD ws))), (11, .ref 130 0), (10, .ref 114 0), (8, .ref 75 0), (7, .ref 74 0)], [(74, bxB l), (75, boxR w), (114, bx2 n pl), (130, bx2n n ql)], 156⟩
def L20b (ws : List VW) (n : Int) (pl ql : List Part) (l w : List Item) (pl' ql' : List Part) (l' w' : List Item) (os : List D) (i j : Nat) : St :=
  ⟨[(89, pint .i64 j), (88, pint .i64 os.length), (49, pint .i64 i), (48, pint .i64 ws.length), (47, .d (.slc 12 (vwsD ws))), (20, .d (.slc 12 os)), (19, .ref 261 0), (18, .ref 260 0), (16, .d (.slc 12 os)), (15, .ref 189 0), (14, .ref 188 0), (11, .ref 130 0), (10, .ref 114 0), (8, .ref 75 0), (7, .ref 74 0)],
   [(74, bxB l), (75, boxR w), (114, bx2 n pl), (130, bx2n n ql), (188, bx2 n pl'), (189, bxB l'), (260, bx2n n ql'), (261, boxR w')], 372⟩
structure At20 (n : Int) (pl ql : List Part) (l w : List Item) (i k : Nat) : Prop where
  p : PGd ⟨0, n, pl⟩ i
  q : RelP ⟨0, n, pl⟩ ⟨0, n, ql⟩
  r : RelI 0 l w
  n : l.length ≤ k
set_option maxHeartbeats 64000000 in
theorem run20 (n : Int) (a : List Item) (ws : List VW) (hin : ∀ w ∈ ws, ∀ x ∈ w.m.ls, In64 x.number) : Runs Try.prog 20 [pint .i64 n, .d (.slc 8 (itemsD a)), .d (.slc 12 (vwsD ws))] [] (pbool true) [] := by
  have r67 := run67
  have r68 := run68 a ws
  have hvl := vws_len ws
  cases hn : (decide (n < 1) || decide (8 < n)) with
  | true =>
    refine Runs.of (kit Try.prog) Try.func20 rfl rfl (by rw [Try.ntmps20]; exact of_decide_eq_true rfl) ?_; rw [Try.ntmps20, Try.results20]
    repeat' (first|((first|refine goA rfl fun K hK=>?_|refine goB rfl fun K hK=>?_|refine goC rfl rfl fun K hK=>?_|refine goD rfl rfl fun K hK=>?_);simp (dsimp:=false) only [↓gq,↓stepP,↓stepG,go_sem,Bool.not_true,Bool.not_false,hn])|refine Pwp.seq ?_|refine Pwp.block ?_|(refine Pwp.exit ?_;simp only [thenS,blockS,if_true,if_false,reduceIte,Nat.reduceEqDiff,Nat.add_one_ne_zero,reduceCtorEq])|(refine Pwp.skip ?_;simp only [thenS,blockS])|(refine Pwp.cond rfl True.intro (fun h=>?_) (fun h=>?_)<;>(try (cases h;done))<;>(try simp only [h]))|refine Pwp.ret ?_|(refine hK _ ?_;clear hK K)|(refine hK _ _ rfl ?_;clear hK K)|(refine CallK.toD (ds:=[]) rfl (r67) rfl ?_)|refine CallG.off ?_|with_reducible refine Or.inl ?_|simp only [thenS,blockS]|with_reducible refine And.intro ?_ ?_|with_reducible exact True.intro|simp (dsimp:=false) only [↓gq,↓stepP,↓stepG,go_sem,Bool.not_true,Bool.not_false,hn])
    all_goals (try (first|(intro hg;simp [hg];done)|exact of_decide_eq_true rfl|(cases h;done)))
    all_goals (try (intro hg; simp only [hg, Bool.not_false, Bool.not_true, Bool.and_self, Bool.true_and, Bool.and_true, true_and, and_self, imp_self, implies_true]; done))
    (refine Fin.data (.inr rfl) (by simp (dsimp:=false) only [↓gq,↓stepP,↓stepG,go_sem,resL]; rfl) (by simp only [and_self]) (by simp (dsimp:=false) only [↓gq,↓stepP,↓stepG,go_sem,resP,Nat.le_refl,List.take_length]; try rfl) ?_)
    exact subD_refl _
  | false =>
    cases hf : fitsV a ws with
    | false =>
      rw [hf] at r68
      refine Runs.of (kit Try.prog) Try.func20 rfl rfl (by rw [Try.ntmps20]; exact of_decide_eq_true rfl) ?_; rw [Try.ntmps20, Try.results20]
      repeat' (first|((first|refine goA rfl fun K hK=>?_|refine goB rfl fun K hK=>?_|refine goC rfl rfl fun K hK=>?_|refine goD rfl rfl fun K hK=>?_);simp (dsimp:=false) only [↓gq,↓stepP,↓stepG,go_sem,Bool.not_true,Bool.not_false,hn])|refine Pwp.seq ?_|refine Pwp.block ?_|(refine Pwp.exit ?_;simp only [thenS,blockS,if_true,if_false,reduceIte,Nat.reduceEqDiff,Nat.add_one_ne_zero,reduceCtorEq])|(refine Pwp.skip ?_;simp only [thenS,blockS])|(refine Pwp.cond rfl True.intro (fun h=>?_) (fun h=>?_)<;>(try (cases h;done))<;>(try simp only [h]))|refine Pwp.ret ?_|(refine hK _ ?_;clear hK K)|(refine hK _ _ rfl ?_;clear hK K)|(refine CallK.toD (ds:=[]) rfl (r67) rfl ?_)|(refine CallG.toD (ds:=[.slc 8 (itemsD a), .slc 12 (vwsD ws)]) rfl (r68) rfl ?_ ?_)|refine CallG.off ?_|with_reducible refine Or.inl ?_|simp only [thenS,blockS]|with_reducible refine And.intro ?_ ?_|with_reducible exact True.intro|simp (dsimp:=false) only [↓gq,↓stepP,↓stepG,go_sem,Bool.not_true,Bool.not_false,hn])
      all_goals (try (first|(intro hg;simp [hg];done)|exact of_decide_eq_true rfl|(cases h;done)))
      all_goals (try (intro hg; simp only [hg, Bool.not_false, Bool.not_true, Bool.and_self, Bool.true_and, Bool.and_true, true_and, and_self, imp_self, implies_true]; done))
      (refine Fin.data (.inr rfl) (by simp (dsimp:=false) only [↓gq,↓stepP,↓stepG,go_sem,resL]; rfl) (by simp only [and_self]) (by simp (dsimp:=false) only [↓gq,↓stepP,↓stepG,go_sem,resP,Nat.le_refl,List.take_length]; try rfl) ?_)
      exact subD_refl _
    | true =>
      rw [hf] at r68
      have hf2 := hf
      simp only [fitsV, Bool.and_eq_true, Bool.not_eq_true', Bool.or_eq_false_iff, decide_eq_false_iff_not, List.all_eq_true] at hf2
      obtain ⟨⟨ha, hw⟩, hall⟩ := hf2
      have r69 := run69 a (by omega)
      have hfl := fill_len a
      simp only [bookD, rdD, RDesk.d, RDesk.cells] at r69
      refine Runs.of (kit Try.prog) Try.func20 rfl rfl (by rw [Try.ntmps20]; exact of_decide_eq_true rfl) ?_; rw [Try.ntmps20, Try.results20]
      repeat' (first|((first|refine goA rfl fun K hK=>?_|refine goB rfl fun K hK=>?_|refine goC rfl rfl fun K hK=>?_|refine goD rfl rfl fun K hK=>?_);simp (dsimp:=false) only [↓gq,↓stepP,↓stepG,go_sem,Bool.not_true,Bool.not_false,hn,hvl])|refine Pwp.seq ?_|refine Pwp.block ?_|(refine Pwp.exit ?_;simp only [thenS,blockS,if_true,if_false,reduceIte,Nat.reduceEqDiff,Nat.add_one_ne_zero,reduceCtorEq])|(refine Pwp.skip ?_;simp only [thenS,blockS])|(refine Pwp.cond rfl True.intro (fun h=>?_) (fun h=>?_)<;>(try (cases h;done))<;>(try simp only [h]))|refine Pwp.ret ?_|(refine hK _ ?_;clear hK K)|(refine hK _ _ rfl ?_;clear hK K)|(refine CallK.toD (ds:=[]) rfl (r67) rfl ?_)|(refine CallK.give (ds:=[.slc 8 (itemsD a)]) rfl (r69) (by simp) ?_)|(refine CallG.toD (ds:=[.slc 8 (itemsD a), .slc 12 (vwsD ws)]) rfl (r68) rfl ?_ ?_)|refine CallG.off ?_|with_reducible refine Or.inl ?_|simp only [thenS,blockS]|with_reducible refine And.intro ?_ ?_|with_reducible exact True.intro|simp (dsimp:=false) only [↓gq,↓stepP,↓stepG,go_sem,Bool.not_true,Bool.not_false,hn,hvl])
      all_goals (try (first|(intro hg;simp [hg];done)|exact of_decide_eq_true rfl|(cases h;done)))
      all_goals (try (intro hg; simp only [hg, Bool.not_false, Bool.not_true, Bool.and_self, Bool.true_and, Bool.and_true, true_and, and_self, imp_self, implies_true]; done))
      refine Pwp.rangeI ws.length (fun i s => ∃ pl ql l w, At20 n pl ql l w i a.length ∧ s = L20 ws n pl ql l w i) (s0 := L20 ws n [] [] (fillS a).1 (fillS a).2 0) (Sub.view V0 (by simp [L20]) rfl (by simp [L20,bxB,boxR,bx2,bx2n,partsL,partsN,hvl]) (by simp [L20,bxB,boxR,bx2,bx2n,partsL,partsN,hvl])) ⟨[], [], _, _, ⟨⟨List.Pairwise.nil, by simp, by simp⟩, ⟨rfl, rfl, List.Perm.refl _, by simp, by simp, by simp⟩, fill_rel a, hfl.1⟩, rfl⟩ ?_ ?_
      · rintro i s hi ⟨pl, ql, l, w, hA, rfl⟩
        obtain ⟨v, hx, hm⟩ := at_lt hi
        have hg := vws_get hx
        have c1 := dlt hi
        have w1 := wrap_succ (i := i) (by omega)
        have hwl := hall v hm
        simp only [badW, Bool.not_eq_true', Bool.or_eq_false_iff, decide_eq_false_iff_not] at hwl
        have hll := hA.n
        have hlw := hA.r.pm.length_eq
        have hpp := hA.p.pl
        simp only at hpp
        have r70 := run70 ⟨0, n, pl⟩ 0 l [] v.m v.from' hA.r.gd (by omega) (by simp only; omega) (fun x hx => by have := hA.p.ls x hx; omega) (by omega) (by omega)
        have r71 := run71 ⟨0, n, pl⟩ ⟨0, n, ql⟩ 0 l w v.m v.from' hA.p hA.q hA.r (by omega) (by omega) (by omega) (by omega) (hin v hm)
        obtain ⟨d1, d2, d3, d4⟩ := do_rel (m := v.m) (f := v.from') hA.p hA.r hA.q
        have hso := voteR_o ⟨0, n, pl⟩ l v.m v.from'
        have hinv := voteR_inv (p := ⟨0, n, pl⟩) (m := v.m) (f := v.from') hA.r.gd hA.p (by omega)
        generalize voteR ⟨0, n, pl⟩ l v.m v.from' = R at *
        generalize refDo ⟨0, n, ql⟩ l w v.m v.from' = S at *
        obtain ⟨e, ⟨pm, pn, pl'⟩, l', o⟩ := R
        obtain ⟨e', ⟨qm, qn, ql'⟩, w', o'⟩ := S
        simp only at hinv hso d1 d2 d3 d4
        obtain ⟨i1, i2, i3, rfl, rfl⟩ := hinv
        subst d1 d2
        obtain rfl : qm = 0 := d3.me
        obtain rfl : qn = pn := d3.n
        have hlw' := d4.pm.length_eq
        have r73 := run73 ⟨0, qn, pl'⟩ ⟨0, qn, ql'⟩ l' w' i3 d3 d4 (by omega) (by omega)
        simp only [vOutD, rvD, VP.d, VP.cells, VP.dN, bookD, rdD, RDesk.d, RDesk.cells, VMsg.msg, Msg.d, Msg.cells] at r70 r71 r73
        have hA' : At20 qn pl' ql' l' w' (i + 1) a.length := ⟨i3, d3, d4, by omega⟩
        have hos : ∀ x ∈ o'.toList, ∃ (M : Msg) (ls : List Line), x = saidD qn M ∧ (M.lines = nilD ∧ ls = [] ∨ M.lines = .slc 4 (linesD ls)) ∧ M.nets = nilD ∧ ls.length ≤ 128 := by
          intro x hx
          rcases hso with h | ⟨M, ls, h, h2⟩
          · rw [h] at hx; cases hx
          · rw [h] at hx
            obtain rfl := by simpa using hx
            exact ⟨M, ls, rfl, h2⟩
        have hol : o'.toList.length ≤ 1 := by cases o' <;> simp
        generalize o'.toList = os at *
        unfold L20 bxB boxR bx2 bx2n
        repeat' (first|((first|refine goA rfl fun K hK=>?_|refine goB rfl fun K hK=>?_|refine goC rfl rfl fun K hK=>?_|refine goD rfl rfl fun K hK=>?_);simp (dsimp:=false) only [↓gq,↓stepP,↓stepG,go_sem,hg,c1,bne_self_eq_false,Bool.or_self])|refine Pwp.seq ?_|refine Pwp.block ?_|(refine Pwp.exit ?_;simp only [thenS,blockS,if_true,if_false,reduceIte,Nat.reduceEqDiff,Nat.add_one_ne_zero,reduceCtorEq])|(refine Pwp.skip ?_;simp only [thenS,blockS])|(refine Pwp.cond rfl True.intro (fun h=>?_) (fun h=>?_)<;>(try (cases h;done))<;>(try simp only [h]))|refine Pwp.ret ?_|(refine hK _ ?_;clear hK K)|(refine hK _ _ rfl ?_;clear hK K)|(refine CallK.give (ds:=[.agg [I64 0, I64 qn, .slc 4 (partsL pl)], .agg [I64 0, .slc 8 (itemsD l), .slc 3 []], .agg [I64 v.m.kind, I64 v.m.seller, I64 v.m.number, I64 v.m.buyer, I64 v.m.currency, I64 v.m.round, I64 v.m.cycle, I64 v.m.amount, .v (.bool v.m.yes), .slc 4 (linesD v.m.ls), .slc 1 (v.m.ns.map I64)], I64 v.from']) rfl (r70) (by simp) ?_)|(refine CallK.give (ds:=[.agg [I64 0, I64 qn, .slc 4 (partsN ql)], .agg [I64 0, I64 0, .slc 8 (itemsD w), .slc 3 (ordersD [])], .agg [I64 v.m.kind, I64 v.m.seller, I64 v.m.number, I64 v.m.buyer, I64 v.m.currency, I64 v.m.round, I64 v.m.cycle, I64 v.m.amount, .v (.bool v.m.yes), .slc 4 (linesD v.m.ls), .slc 1 (v.m.ns.map I64)], I64 v.from']) rfl (r71) (by simp) ?_)|refine CallG.off ?_|with_reducible refine Or.inl ?_|simp only [thenS,blockS]|with_reducible refine And.intro ?_ ?_|with_reducible exact True.intro|simp (dsimp:=false) only [↓gq,↓stepP,↓stepG,go_sem,hg,c1,bne_self_eq_false,Bool.or_self])
        all_goals (try (first|(intro hg;simp [hg];done)|exact of_decide_eq_true rfl|(cases h;done)))
        all_goals (try (intro hg; simp only [hg, Bool.not_false, Bool.not_true, Bool.and_self, Bool.true_and, Bool.and_true, true_and, and_self, imp_self, implies_true]; done))
        refine Pwp.range os.length (S := L20b ws qn pl ql l w pl' ql' l' w' os i) (Sub.view V0 (by simp [L20b]) rfl (by simp [L20b,bxB,boxR,bx2,bx2n]) (by simp [L20b,bxB,boxR,bx2,bx2n])) (fun j hj => ?_) ?_
        · obtain ⟨x, hxx, hxm⟩ := at_lt hj
          obtain ⟨M, ls, rfl, hM1, hM2, hM3⟩ := hos x hxm
          have c2 := dlt hj
          have w2 := wrap_succ (i := j) (by omega)
          have rS := run72e ⟨M.kind, M.seller, M.number, M.buyer, M.currency, M.round, M.cycle, M.amount, M.yes, ls, []⟩ (by simp only; omega) (by simp)
          obtain ⟨mk, ms, mn, mb, mc, mr, my, ma, mv, ml, mt⟩ := M
          simp only [VMsg.msg, Msg.d, Msg.cells, List.map_nil] at rS
          simp only at hM1 hM2
          subst hM2
          unfold saidD Msg.cells at hxx
          unfold L20b bxB boxR bx2 bx2n
          have hsb : subD (.agg [I64 mk, I64 ms, I64 mn, I64 mb, I64 mc, I64 mr, I64 my, I64 ma, .v (.bool mv), ml, nilD]) (.agg [I64 mk, I64 ms, I64 mn, I64 mb, I64 mc, I64 mr, I64 my, I64 ma, .v (.bool mv), .slc 4 (linesD ls), .slc 1 []]) := by
            rcases hM1 with ⟨rfl, rfl⟩ | rfl
            · simp [subL, subD, subV, subD_refl, linesD]
            · simp [subL, subD, subV, subD_refl]
          repeat' (first|((first|refine goA rfl fun K hK=>?_|refine goB rfl fun K hK=>?_|refine goC rfl rfl fun K hK=>?_|refine goD rfl rfl fun K hK=>?_);simp (dsimp:=false) only [↓gq,↓stepP,↓stepG,go_sem,hxx,c2,w2,bne_self_eq_false,Bool.not_true,Bool.or_self])|refine Pwp.seq ?_|refine Pwp.block ?_|(refine Pwp.exit ?_;simp only [thenS,blockS,if_true,if_false,reduceIte,Nat.reduceEqDiff,Nat.add_one_ne_zero,reduceCtorEq])|(refine Pwp.skip ?_;simp only [thenS,blockS])|(refine Pwp.cond rfl True.intro (fun h=>?_) (fun h=>?_)<;>(try (cases h;done))<;>(try simp only [h]))|refine Pwp.ret ?_|(refine hK _ ?_;clear hK K)|(refine hK _ _ rfl ?_;clear hK K)|(refine CallG.toDS (ds:=[.agg [I64 mk, I64 ms, I64 mn, I64 mb, I64 mc, I64 mr, I64 my, I64 ma, .v (.bool mv), ml, nilD], .agg [I64 mk, I64 ms, I64 mn, I64 mb, I64 mc, I64 mr, I64 my, I64 ma, .v (.bool mv), ml, nilD]]) (es:=[.agg [I64 mk, I64 ms, I64 mn, I64 mb, I64 mc, I64 mr, I64 my, I64 ma, .v (.bool mv), .slc 4 (linesD ls), .slc 1 []], .agg [I64 mk, I64 ms, I64 mn, I64 mb, I64 mc, I64 mr, I64 my, I64 ma, .v (.bool mv), .slc 4 (linesD ls), .slc 1 []]]) rfl (by simp only [subL, hsb, and_self]) rS rfl ?_ ?_)|refine CallG.off ?_|with_reducible refine Or.inl ?_|simp only [thenS,blockS]|with_reducible refine And.intro ?_ ?_|with_reducible exact True.intro|simp (dsimp:=false) only [↓gq,↓stepP,↓stepG,go_sem,hxx,c2,w2,bne_self_eq_false,Bool.not_true,Bool.or_self])
          all_goals (try (first|(intro hg;simp [hg];done)|exact of_decide_eq_true rfl|(cases h;done)))
          all_goals (try (intro hg; simp only [hg, Bool.not_false, Bool.not_true, Bool.and_self, Bool.true_and, Bool.and_true, true_and, and_self, imp_self, implies_true]; done))
          exact Sub.view V0 (by simp [L20b]) rfl (by simp [L20b,bxB,boxR,bx2,bx2n]) (by simp [L20b,bxB,boxR,bx2,bx2n])
        · have c2 := dge (Nat.le_refl os.length)
          unfold L20b bxB boxR bx2 bx2n
          repeat' (first|((first|refine goA rfl fun K hK=>?_|refine goB rfl fun K hK=>?_|refine goC rfl rfl fun K hK=>?_|refine goD rfl rfl fun K hK=>?_);simp (dsimp:=false) only [↓gq,↓stepP,↓stepG,go_sem,c2,w1,Bool.not_true])|refine Pwp.seq ?_|refine Pwp.block ?_|(refine Pwp.exit ?_;simp only [thenS,blockS,if_true,if_false,reduceIte,Nat.reduceEqDiff,Nat.add_one_ne_zero,reduceCtorEq])|(refine Pwp.skip ?_;simp only [thenS,blockS])|(refine Pwp.cond rfl True.intro (fun h=>?_) (fun h=>?_)<;>(try (cases h;done))<;>(try simp only [h]))|refine Pwp.ret ?_|(refine hK _ ?_;clear hK K)|(refine hK _ _ rfl ?_;clear hK K)|(refine CallK.toD (ds:=[.agg [I64 0, I64 qn, .slc 4 (partsL pl')], .agg [I64 0, .slc 8 (itemsD l'), .slc 3 []], .agg [I64 0, I64 qn, .slc 4 (partsN ql')], .agg [I64 0, I64 0, .slc 8 (itemsD w'), .slc 3 (ordersD [])]]) rfl (r73) rfl ?_)|refine CallG.off ?_|with_reducible refine Or.inl ?_|simp only [thenS,blockS]|with_reducible refine And.intro ?_ ?_|with_reducible exact True.intro|simp (dsimp:=false) only [↓gq,↓stepP,↓stepG,go_sem,c2,w1,Bool.not_true])
          all_goals (try (first|(intro hg;simp [hg];done)|exact of_decide_eq_true rfl|(cases h;done)))
          exact ⟨_, Sub.view V0 (by simp [L20]) rfl (by simp [L20,bxB,boxR,bx2,bx2n]) (by simp [L20,bxB,boxR,bx2,bx2n]), pl', ql', l', w', hA', rfl⟩
      · rintro s ⟨pl, ql, l, w, hA, rfl⟩
        have c1 := dge (Nat.le_refl ws.length)
        unfold L20 bxB boxR bx2 bx2n
        repeat' (first|((first|refine goA rfl fun K hK=>?_|refine goB rfl fun K hK=>?_|refine goC rfl rfl fun K hK=>?_|refine goD rfl rfl fun K hK=>?_);simp (dsimp:=false) only [↓gq,↓stepP,↓stepG,go_sem,c1])|refine Pwp.seq ?_|refine Pwp.block ?_|(refine Pwp.exit ?_;simp only [thenS,blockS,if_true,if_false,reduceIte,Nat.reduceEqDiff,Nat.add_one_ne_zero,reduceCtorEq])|(refine Pwp.skip ?_;simp only [thenS,blockS])|(refine Pwp.cond rfl True.intro (fun h=>?_) (fun h=>?_)<;>(try (cases h;done))<;>(try simp only [h]))|refine Pwp.ret ?_|(refine hK _ ?_;clear hK K)|(refine hK _ _ rfl ?_;clear hK K)|refine CallG.off ?_|with_reducible refine Or.inl ?_|simp only [thenS,blockS]|with_reducible refine And.intro ?_ ?_|with_reducible exact True.intro|simp (dsimp:=false) only [↓gq,↓stepP,↓stepG,go_sem,c1])
        all_goals (try (first|(intro hg;simp [hg];done)|exact of_decide_eq_true rfl|(cases h;done)))
        (refine Fin.data (.inr rfl) (by simp (dsimp:=false) only [↓gq,↓stepP,↓stepG,go_sem,resL]; rfl) (by simp only [and_self]) (by simp (dsimp:=false) only [↓gq,↓stepP,↓stepG,go_sem,resP,Nat.le_refl,List.take_length]; try rfl) ?_)
        exact subD_refl _
end Go.Proofs.Ytdodgbhodkcckaa.Pv
end
section
set_option linter.unusedVariables false
set_option autoImplicit false
namespace Go.Proofs.Ytdodgbhodkcckaa.Pv
open Go Go.RowKit
theorem lit_inV {n : Int} (h : (Lit.int .i64 n).wf = true) : In64 n := by
  simp only [Lit.wf, Bool.and_eq_true, decide_eq_true_eq] at h
  exact h
abbrev itemVL : List CL := [.int .i64, .int .i64, .int .i64, .int .i64, .int .i64, .int .i64, .int .i64, .int .i64]
abbrev lineVL : List CL := [.int .i64, .int .i64, .int .i64, .int .i64]
abbrev wordVL : List CL := [.int .i64, .int .i64, .int .i64, .int .i64, .int .i64, .int .i64, .int .i64, .int .i64, .int .i64, .bool, .slc true lineVL, .slc false [.int .i64]]
theorem itemV_of {ds : List D} (h : okL itemVL ds) : ∃ x : Item, ds = x.cells ∧ In64 x.number := by
  simp only [okL, okD] at h
  obtain ⟨_, _, rfl, ⟨a, rfl, ha⟩, _, _, rfl, ⟨b, rfl, hb⟩, _, _, rfl, ⟨c, rfl, hc⟩, _, _, rfl, ⟨d, rfl, hd⟩, _, _, rfl, ⟨e, rfl, he⟩, _, _, rfl, ⟨f, rfl, hf⟩, _, _, rfl, ⟨g, rfl, hg⟩, _, _, rfl, ⟨i, rfl, hi⟩, rfl⟩ := h
  exact ⟨⟨a, b, c, d, e, f, g, i⟩, rfl, lit_inV hb⟩
theorem itemsV_of {d : D} (h : okD (.slc true itemVL) d) : ∃ l : List Item, d = .slc 8 (itemsD l) ∧ ∀ x ∈ l, In64 x.number := by
  simp only [okD] at h
  obtain ⟨els, rfl, _, h⟩ := h
  obtain ⟨l, rfl, hl⟩ := els_of Item.d (fun x => In64 x.number) (els := els) fun el he => by
    obtain ⟨ds, rfl, h2⟩ := h el he
    obtain ⟨x, rfl, hx⟩ := itemV_of h2
    exact ⟨x, rfl, hx⟩
  exact ⟨l, by simp [itemsD, Item.d, Function.comp_def], hl⟩
theorem lineV_of {ds : List D} (h : okL lineVL ds) : ∃ x : Line, ds = x.cells ∧ In64 x.number := by
  simp only [okL, okD] at h
  obtain ⟨_, _, rfl, ⟨a, rfl, ha⟩, _, _, rfl, ⟨b, rfl, hb⟩, _, _, rfl, ⟨c, rfl, hc⟩, _, _, rfl, ⟨d, rfl, hd⟩, rfl⟩ := h
  exact ⟨⟨a, b, c, d⟩, rfl, lit_inV hb⟩
theorem linesV_of {d : D} (h : okD (.slc true lineVL) d) : ∃ l : List Line, d = .slc 4 (linesD l) ∧ ∀ x ∈ l, In64 x.number := by
  simp only [okD] at h
  obtain ⟨els, rfl, _, h⟩ := h
  obtain ⟨l, rfl, hl⟩ := els_of Line.d (fun x => In64 x.number) (els := els) fun el he => by
    obtain ⟨ds, rfl, h2⟩ := h el he
    obtain ⟨x, rfl, hx⟩ := lineV_of h2
    exact ⟨x, rfl, hx⟩
  exact ⟨l, by simp [linesD], hl⟩
theorem numsV_of {d : D} (h : okD (.slc false [.int .i64]) d) : ∃ l : List Int, d = .slc 1 (l.map I64) := by
  simp only [okD] at h
  obtain ⟨els, rfl, _, h⟩ := h
  obtain ⟨l, rfl, _⟩ := els_of I64 (fun _ => True) (els := els) fun el he => by
    obtain ⟨ds, rfl, h2⟩ := h el he
    simp only [okL, okD] at h2
    obtain ⟨_, _, rfl, ⟨a, rfl, _⟩, rfl⟩ := h2
    exact ⟨a, rfl, True.intro⟩
  exact ⟨l, rfl⟩
structure OkVW (w : VW) : Prop where
  cy : In64 w.m.cycle
  ln : ∀ x ∈ w.m.ls, In64 x.number
theorem wordV_of {ds : List D} (h : okL wordVL ds) : ∃ w : VW, ds = I64 w.from' :: w.m.msg.cells ∧ OkVW w := by
  rw [okL] at h
  obtain ⟨_, _, rfl, h0, h⟩ := h
  rw [okL] at h; obtain ⟨_, _, rfl, h1, h⟩ := h
  rw [okL] at h; obtain ⟨_, _, rfl, h2, h⟩ := h
  rw [okL] at h; obtain ⟨_, _, rfl, h3, h⟩ := h
  rw [okL] at h; obtain ⟨_, _, rfl, h4, h⟩ := h
  rw [okL] at h; obtain ⟨_, _, rfl, h5, h⟩ := h
  rw [okL] at h; obtain ⟨_, _, rfl, h6, h⟩ := h
  rw [okL] at h; obtain ⟨_, _, rfl, h7, h⟩ := h
  rw [okL] at h; obtain ⟨_, _, rfl, h8, h⟩ := h
  rw [okL] at h; obtain ⟨_, _, rfl, h9, h⟩ := h
  rw [okL] at h; obtain ⟨_, _, rfl, ha, h⟩ := h
  rw [okL] at h; obtain ⟨_, _, rfl, hb, h⟩ := h
  rw [okL] at h; subst h
  obtain ⟨ls, rfl, hls⟩ := linesV_of ha
  obtain ⟨ns, rfl⟩ := numsV_of hb
  simp only [okD] at h0 h1 h2 h3 h4 h5 h6 h7 h8 h9
  obtain ⟨a0, rfl, _⟩ := h0
  obtain ⟨a1, rfl, _⟩ := h1
  obtain ⟨a2, rfl, _⟩ := h2
  obtain ⟨a3, rfl, _⟩ := h3
  obtain ⟨a4, rfl, _⟩ := h4
  obtain ⟨a5, rfl, _⟩ := h5
  obtain ⟨a6, rfl, _⟩ := h6
  obtain ⟨a7, rfl, k7⟩ := h7
  obtain ⟨a8, rfl, _⟩ := h8
  obtain ⟨a9, rfl⟩ := h9
  exact ⟨⟨a0, ⟨a1, a2, a3, a4, a5, a6, a7, a8, a9, ls, ns⟩⟩, rfl, lit_inV k7, hls⟩
theorem wordsV_of {d : D} (h : okD (.slc true wordVL) d) : ∃ ws : List VW, d = .slc 12 (vwsD ws) ∧ ∀ w ∈ ws, OkVW w := by
  rw [okD] at h
  obtain ⟨els, rfl, _, h⟩ := h
  obtain ⟨l, rfl, hl⟩ := els_of VW.d OkVW (els := els) fun el he => by
    obtain ⟨ds, rfl, h2⟩ := h el he
    obtain ⟨x, rfl, hx⟩ := wordV_of h2
    exact ⟨x, rfl, hx⟩
  exact ⟨l, rfl, hl⟩
end Go.Proofs.Ytdodgbhodkcckaa.Pv
end
section
set_option autoImplicit false
namespace Go.Proofs.Ytdodgbhodkcckaa.Pv
open Go Go.RowKit
theorem run20k (xs : List D) (h : okArgs [(false, [.int .i64]), (false, [.slc true itemVL]), (false, [.slc true wordVL])] xs) : Runs Try.prog 20 (xs.map .d) [] (.d (.v (.bool true))) [] := by
  simp only [okArgs, okL] at h
  obtain ⟨_, _, rfl, ⟨_, _, rfl, h0, rfl⟩, _, _, rfl, ⟨_, _, rfl, h1, rfl⟩, _, _, rfl, ⟨_, _, rfl, h2, rfl⟩, rfl⟩ := h
  obtain ⟨a, rfl, _⟩ := itemsV_of h1
  obtain ⟨ws, rfl, hws⟩ := wordsV_of h2
  simp only [okD] at h0
  obtain ⟨n, rfl, _⟩ := h0
  exact run20 n a ws fun w hw => (hws w hw).ln
end Go.Proofs.Ytdodgbhodkcckaa.Pv
end
