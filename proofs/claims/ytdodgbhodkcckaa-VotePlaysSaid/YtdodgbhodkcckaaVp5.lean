/- A part of the proof: the machine of plain values and walks of functions. -/
import Derived.KernelRfl
import Derived.Test.YtdodgbhodkcckaaVp4
section
set_option linter.unusedVariables false
set_option linter.unusedSimpArgs false
set_option autoImplicit false
set_option maxRecDepth 100000
namespace Go.Proofs.Ytdodgbhodkcckaa.Pv
open Go Go.RowKit
def waitsL (l : List Part) : List Int := (l.filter openC).map Part.cycle
theorem waits_take {l : List Part} {i : Nat} {x : Part} (h : l[i]? = some x) : waitsL (l.take (i + 1)) = waitsL (l.take i) ++ if openC x = true then [x.cycle] else [] := by
  unfold waitsL
  rw [List.take_add_one, h]
  simp only [Option.toList, List.filter_append, List.filter_cons, List.filter_nil, List.map_append]
  cases openC x <;> simp
theorem waits_len (l : List Part) : (waitsL l).length ≤ l.length := by unfold waitsL; rw [List.length_map]; exact List.length_filter_le _ _
def L76 (l : List Part) (i : Nat) : St := ⟨[(9, pint .i64 i), (8, pint .i64 l.length), (7, .d (.slc 4 (partsL l))), (3, .own 9 0 1 0 (waitsL (l.take i)).length)], [(9, .arr 3 1 0 none ((waitsL (l.take i)).map I64))], 36⟩
set_option maxHeartbeats 16000000 in
theorem run76 (p : VP) (hp : p.list.length ≤ 100000) : Runs Try.prog 76 [.d p.d] [] (.d (.slc 1 ((waitsL p.list).map I64))) [] := by
  have hlen := parts_len p.list
  unfold VP.d VP.cells
  refine Runs.of (kit Try.prog) Try.func76 rfl rfl (by rw [Try.ntmps76]; exact of_decide_eq_true rfl) ?_; rw [Try.ntmps76, Try.results76]
  repeat' (first|((first|refine goA rfl fun K hK=>?_|refine goB rfl fun K hK=>?_|refine goC rfl rfl fun K hK=>?_|refine goD rfl rfl fun K hK=>?_);simp (dsimp:=false) only [↓gq,↓stepP,↓stepG,go_sem,hlen])|refine Pwp.seq ?_|refine Pwp.block ?_|(refine Pwp.exit ?_;simp only [thenS,blockS,if_true,if_false,reduceIte,Nat.reduceEqDiff,Nat.add_one_ne_zero,reduceCtorEq])|(refine Pwp.skip ?_;simp only [thenS,blockS])|(refine Pwp.cond rfl True.intro (fun h=>?_) (fun h=>?_)<;>(try (cases h;done))<;>(try simp only [h]))|refine Pwp.ret ?_|(refine hK _ ?_;clear hK K)|(refine hK _ _ rfl ?_;clear hK K)|refine CallG.off ?_|with_reducible refine Or.inl ?_|simp only [thenS,blockS]|with_reducible refine And.intro ?_ ?_|with_reducible exact True.intro|simp (dsimp:=false) only [↓gq,↓stepP,↓stepG,go_sem,hlen])
  all_goals (try (first|(intro hg;simp [hg];done)|exact of_decide_eq_true rfl|(cases h;done)))
  refine Pwp.range p.list.length (S := L76 p.list) (Sub.view (VN 9) (by simp [L76]) rfl (by simp [L76,waitsL,hlen]) (by simp [L76,waitsL,hlen])) (fun i hi => ?_) ?_
  · obtain ⟨x, hx, hm⟩ := at_lt hi
    have hg := parts_get hx
    have c1 := dlt hi
    have w1 := wrap_succ (i := i) (by omega)
    have r134 := run134 x
    have ht := waits_take hx
    have hwl := waits_len (p.list.take i)
    rw [List.length_take] at hwl
    have hln : ((waitsL (p.list.take i)).map I64).length = (waitsL (p.list.take i)).length := by simp
    have htk : ((waitsL (p.list.take i)).map I64).take (waitsL (p.list.take i)).length = (waitsL (p.list.take i)).map I64 := List.take_of_length_le (by omega)
    cases hc : openC x with
    | true =>
      rw [hc] at r134
      rw [hc, if_pos rfl] at ht
      unfold Part.d Part.cells at r134
      unfold L76
      repeat' (first|((first|refine goA rfl fun K hK=>?_|refine goB rfl fun K hK=>?_|refine goC rfl rfl fun K hK=>?_|refine goD rfl rfl fun K hK=>?_);simp (dsimp:=false) only [↓gq,↓stepP,↓stepG,go_sem,hg,c1,w1,hln,htk])|refine Pwp.seq ?_|refine Pwp.block ?_|(refine Pwp.exit ?_;simp only [thenS,blockS,if_true,if_false,reduceIte,Nat.reduceEqDiff,Nat.add_one_ne_zero,reduceCtorEq])|(refine Pwp.skip ?_;simp only [thenS,blockS])|(refine Pwp.cond rfl True.intro (fun h=>?_) (fun h=>?_)<;>(try (cases h;done))<;>(try simp only [h]))|refine Pwp.ret ?_|(refine hK _ ?_;clear hK K)|(refine hK _ _ rfl ?_;clear hK K)|(refine CallK.toD (ds:=[.agg [I64 x.cycle, I64 x.currency, I64 x.state, .slc 4 (linesD x.lines)]]) rfl (r134) rfl ?_)|refine CallG.off ?_|with_reducible refine Or.inl ?_|simp only [thenS,blockS]|with_reducible refine And.intro ?_ ?_|with_reducible exact True.intro|simp (dsimp:=false) only [↓gq,↓stepP,↓stepG,go_sem,hg,c1,w1,hln,htk])
      all_goals (try (first|(intro hg;simp [hg];done)|exact of_decide_eq_true rfl|(cases h;done)))
      all_goals (try (first | omega | (simp [maxLen]; omega) | (simp [hln]; done)))
      exact Sub.view (VR 9 1) (by simp [L76]) rfl (by simp [L76,ht]) (by simp [L76,ht])
    | false =>
      rw [hc] at r134
      rw [hc, if_neg (by simp), List.append_nil] at ht
      unfold Part.d Part.cells at r134
      unfold L76
      repeat' (first|((first|refine goA rfl fun K hK=>?_|refine goB rfl fun K hK=>?_|refine goC rfl rfl fun K hK=>?_|refine goD rfl rfl fun K hK=>?_);simp (dsimp:=false) only [↓gq,↓stepP,↓stepG,go_sem,hg,c1,w1,hln,htk])|refine Pwp.seq ?_|refine Pwp.block ?_|(refine Pwp.exit ?_;simp only [thenS,blockS,if_true,if_false,reduceIte,Nat.reduceEqDiff,Nat.add_one_ne_zero,reduceCtorEq])|(refine Pwp.skip ?_;simp only [thenS,blockS])|(refine Pwp.cond rfl True.intro (fun h=>?_) (fun h=>?_)<;>(try (cases h;done))<;>(try simp only [h]))|refine Pwp.ret ?_|(refine hK _ ?_;clear hK K)|(refine hK _ _ rfl ?_;clear hK K)|(refine CallK.toD (ds:=[.agg [I64 x.cycle, I64 x.currency, I64 x.state, .slc 4 (linesD x.lines)]]) rfl (r134) rfl ?_)|refine CallG.off ?_|with_reducible refine Or.inl ?_|simp only [thenS,blockS]|with_reducible refine And.intro ?_ ?_|with_reducible exact True.intro|simp (dsimp:=false) only [↓gq,↓stepP,↓stepG,go_sem,hg,c1,w1,hln,htk])
      all_goals (try (first|(intro hg;simp [hg];done)|exact of_decide_eq_true rfl|(cases h;done)))
      exact Sub.view V0 (by simp [L76]) rfl (by simp [L76,ht]) (by simp [L76,ht])
  · have c1 := dge (Nat.le_refl p.list.length)
    have htk : ((waitsL p.list).map I64).take (waitsL p.list).length = (waitsL p.list).map I64 := List.take_of_length_le (by simp)
    have hln : ((waitsL p.list).map I64).length = (waitsL p.list).length := by simp
    unfold L76
    rw [List.take_length]
    repeat' (first|((first|refine goA rfl fun K hK=>?_|refine goB rfl fun K hK=>?_|refine goC rfl rfl fun K hK=>?_|refine goD rfl rfl fun K hK=>?_);simp (dsimp:=false) only [↓gq,↓stepP,↓stepG,go_sem,c1,htk,hln])|refine Pwp.seq ?_|refine Pwp.block ?_|(refine Pwp.exit ?_;simp only [thenS,blockS,if_true,if_false,reduceIte,Nat.reduceEqDiff,Nat.add_one_ne_zero,reduceCtorEq])|(refine Pwp.skip ?_;simp only [thenS,blockS])|(refine Pwp.cond rfl True.intro (fun h=>?_) (fun h=>?_)<;>(try (cases h;done))<;>(try simp only [h]))|refine Pwp.ret ?_|(refine hK _ ?_;clear hK K)|(refine hK _ _ rfl ?_;clear hK K)|refine CallG.off ?_|with_reducible refine Or.inl ?_|simp only [thenS,blockS]|with_reducible refine And.intro ?_ ?_|with_reducible exact True.intro|simp (dsimp:=false) only [↓gq,↓stepP,↓stepG,go_sem,c1,htk,hln])
    all_goals (try (first|(intro hg;simp [hg];done)|exact of_decide_eq_true rfl|(cases h;done)))
    (refine Fin.data (.inr rfl) (by simp (dsimp:=false) only [↓gq,↓stepP,↓stepG,go_sem,resL,htk,hln]; rfl) (by simp only [and_self]) (by simp (dsimp:=false) only [↓gq,↓stepP,↓stepG,go_sem,resP,Nat.le_refl,List.take_length,htk,hln]; try rfl) ?_)
    exact subD_refl _
structure VMsg where
  kind : Int
  seller : Int
  number : Int
  buyer : Int
  currency : Int
  round : Int
  cycle : Int
  amount : Int
  yes : Bool
  ls : List Line
  ns : List Int
def VMsg.msg (m : VMsg) : Msg := ⟨m.kind, m.seller, m.number, m.buyer, m.currency, m.round, m.cycle, m.amount, m.yes, .slc 4 (linesD m.ls), .slc 1 (m.ns.map I64)⟩
structure VW where
  from' : Int
  m : VMsg
def VW.d (w : VW) : D := .agg (I64 w.from' :: w.m.msg.cells)
def vwsD (ws : List VW) : List D := ws.map VW.d
theorem vws_len (ws : List VW) : (vwsD ws).length = ws.length := by simp [vwsD]
theorem vws_get {ws : List VW} {i : Nat} {w : VW} (h : ws[i]? = some w) : (vwsD ws)[i]? = some (.agg [I64 w.from', I64 w.m.kind, I64 w.m.seller, I64 w.m.number, I64 w.m.buyer, I64 w.m.currency, I64 w.m.round, I64 w.m.cycle, I64 w.m.amount, .v (.bool w.m.yes), .slc 4 (linesD w.m.ls), .slc 1 (w.m.ns.map I64)]) := by
  simp [vwsD, h, VW.d, Msg.cells, VMsg.msg]
def voteR (p : VP) (l : List Item) (m : VMsg) (f : Int) : VOut := voteK p l m.msg f (askR p l m.msg) (prepR p l m.msg m.ls m.ns) (decR p l m.msg) (dueC p l m.msg)
theorem run70 (p : VP) (me : Int) (l : List Item) (os : List D) (m : VMsg) (f : Int) (hG : Good me l) (hl : l.length ≤ 100000) (hp : p.list.length ≤ 100000) (hll : ∀ x ∈ p.list, x.lines.length ≤ 100000) (hls : m.ls.length ≤ 1000) (hns : m.ns.length ≤ 1000) :
    Runs Try.prog 70 [.d p.d, .d (bookD me l os), .d m.msg.d, pint .i64 f] [] (.d (vOutD me os (voteR p l m f))) [] :=
  run70g p me l os m.msg f _ _ _ _ (run123 p me l os m.msg hG hl hp hll) (run124 p me l os m.msg m.ls m.ns rfl rfl hl hp hll hls hns) (run125 p me l os m.msg hG hl hp hll) (run122 p me l os m.msg hp hll)
def fillS (a : List Item) : List Item × List Item := a.foldl (fun s x => if putE 0 s.1 x = 0 then (putIn s.1 x, keepL2 s.2 x) else s) ([], [])
theorem fill_take {a : List Item} {i : Nat} {x : Item} (h : a[i]? = some x) : fillS (a.take (i + 1)) = if putE 0 (fillS (a.take i)).1 x = 0 then (putIn (fillS (a.take i)).1 x, keepL2 (fillS (a.take i)).2 x) else fillS (a.take i) := by
  unfold fillS; rw [List.take_add_one, h, List.foldl_append]; rfl
theorem keep_len (l : List Item) (x : Item) : (keepL2 l x).length ≤ l.length + 1 := by
  unfold keepL2; split
  · simp
  · rw [List.length_set]; omega
theorem fill_len : ∀ (a : List Item), (fillS a).1.length ≤ a.length ∧ (fillS a).2.length ≤ a.length := by
  have key : ∀ (a : List Item) (s : List Item × List Item), (a.foldl (fun s x => if putE 0 s.1 x = 0 then (putIn s.1 x, keepL2 s.2 x) else s) s).1.length ≤ s.1.length + a.length ∧ (a.foldl (fun s x => if putE 0 s.1 x = 0 then (putIn s.1 x, keepL2 s.2 x) else s) s).2.length ≤ s.2.length + a.length := by
    intro a
    induction a with
    | nil => intro s; simp
    | cons x a ih =>
      intro s
      simp only [List.foldl_cons, List.length_cons]
      have h := ih (if putE 0 s.1 x = 0 then (putIn s.1 x, keepL2 s.2 x) else s)
      split at h
      · have h1 := len_putIn s.1 x
        have h2 := keep_len s.2 x
        simp only at h
        rw [if_pos (by assumption)]
        omega
      · rw [if_neg (by assumption)]
        omega
  intro a
  have := key a ([], [])
  simpa [fillS] using this
def rdD (l : List Item) : RDesk := ⟨0, 0, l, []⟩
def L69 (a : List Item) (i : Nat) : St := ⟨[(19, pint .i64 i), (18, pint .i64 a.length), (17, .d (.slc 8 (itemsD a))), (7, .ref 49 0), (6, pint .i64 0), (5, .ref 24 0), (3, .ref 9 0), (2, .ref 8 0)],
  [(8, .box [.d (I64 0), .d nilD, .d nilD]), (9, .box [.d (I64 0), .d (I64 0), .d nilD, .d nilD]), (24, .box [.d (I64 0), .d (.slc 8 (itemsD (fillS (a.take i)).1)), .d (.slc 3 [])]), (49, .box [.d (I64 0), .d (I64 0), .d (.slc 8 (itemsD (fillS (a.take i)).2)), .d (.slc 3 (ordersD []))])], 72⟩
set_option maxHeartbeats 16000000 in
theorem run69 (a : List Item) (ha : a.length ≤ 100000) : Runs Try.prog 69 [.d (.slc 8 (itemsD a))] [] (.d (.tup [bookD 0 (fillS a).1 [], (rdD (fillS a).2).d, .v (.bool true)])) [] := by
  have hlen := items_len a
  have r49 := run49 0
  have e0 : (decide ((0 : Int) < 0) || decide ((8 : Int) ≤ 0)) = false := rfl
  rw [e0, if_neg (by simp)] at r49
  refine Runs.of (kit Try.prog) Try.func69 rfl rfl (by rw [Try.ntmps69]; exact of_decide_eq_true rfl) ?_; rw [Try.ntmps69, Try.results69]
  repeat' (first|((first|refine goA rfl fun K hK=>?_|refine goB rfl fun K hK=>?_|refine goC rfl rfl fun K hK=>?_|refine goD rfl rfl fun K hK=>?_);simp (dsimp:=false) only [↓gq,↓stepP,↓stepG,go_sem,hlen])|refine Pwp.seq ?_|refine Pwp.block ?_|(refine Pwp.exit ?_;simp only [thenS,blockS,if_true,if_false,reduceIte,Nat.reduceEqDiff,Nat.add_one_ne_zero,reduceCtorEq])|(refine Pwp.skip ?_;simp only [thenS,blockS])|(refine Pwp.cond rfl True.intro (fun h=>?_) (fun h=>?_)<;>(try (cases h;done))<;>(try simp only [h]))|refine Pwp.ret ?_|(refine hK _ ?_;clear hK K)|(refine hK _ _ rfl ?_;clear hK K)|(refine CallK.give (ds:=[I64 0]) rfl (r49) (by simp) ?_)|refine CallG.off ?_|with_reducible refine Or.inl ?_|simp only [thenS,blockS]|with_reducible refine And.intro ?_ ?_|with_reducible exact True.intro|simp (dsimp:=false) only [↓gq,↓stepP,↓stepG,go_sem,hlen])
  all_goals (try (first|(intro hg;simp [hg];done)|exact of_decide_eq_true rfl|(cases h;done)))
  refine Pwp.range a.length (S := L69 a) (Sub.view V0 (by simp [L69]) rfl (by simp [L69,fillS,hlen,itemsD,ordersD,subV]) (by simp [L69,fillS,hlen,itemsD,ordersD,subV])) (fun i hi => ?_) ?_
  · obtain ⟨x, hx, hm⟩ := at_lt hi
    have hg := items_get8 hx
    have c1 := dlt hi
    have w1 := wrap_succ (i := i) (by omega)
    have ht := fill_take hx
    have hfl := fill_len (a.take i)
    rw [List.length_take] at hfl
    have r50 := run50 0 (fillS (a.take i)).1 [] x (by omega)
    have r121 := run121 (rdD (fillS (a.take i)).2) x (by simp only [rdD]; omega)
    by_cases he : putE 0 (fillS (a.take i)).1 x = 0
    · rw [he, if_pos rfl] at r50
      rw [if_pos he] at ht
      unfold RDesk.keep at r121
      unfold bookD Item.d Item.cells at r50
      unfold RDesk.d RDesk.cells rdD Item.d Item.cells at r121
      unfold L69
      repeat' (first|((first|refine goA rfl fun K hK=>?_|refine goB rfl fun K hK=>?_|refine goC rfl rfl fun K hK=>?_|refine goD rfl rfl fun K hK=>?_);simp (dsimp:=false) only [↓gq,↓stepP,↓stepG,go_sem,hg,c1,w1,beq_self_eq_true])|refine Pwp.seq ?_|refine Pwp.block ?_|(refine Pwp.exit ?_;simp only [thenS,blockS,if_true,if_false,reduceIte,Nat.reduceEqDiff,Nat.add_one_ne_zero,reduceCtorEq])|(refine Pwp.skip ?_;simp only [thenS,blockS])|(refine Pwp.cond rfl True.intro (fun h=>?_) (fun h=>?_)<;>(try (cases h;done))<;>(try simp only [h]))|refine Pwp.ret ?_|(refine hK _ ?_;clear hK K)|(refine hK _ _ rfl ?_;clear hK K)|(refine CallK.give (ds:=[.agg [I64 0, .slc 8 (itemsD (fillS (a.take i)).1), .slc 3 []], .agg [I64 x.seller, I64 x.number, I64 x.buyer, I64 x.currency, I64 x.amount, I64 x.round, I64 x.state, I64 x.cycle]]) rfl (r50) (by simp) ?_)|(refine CallK.give (ds:=[.agg [I64 0, I64 0, .slc 8 (itemsD (fillS (a.take i)).2), .slc 3 (ordersD [])], .agg [I64 x.seller, I64 x.number, I64 x.buyer, I64 x.currency, I64 x.amount, I64 x.round, I64 x.state, I64 x.cycle]]) rfl (r121) (by simp) ?_)|refine CallG.off ?_|with_reducible refine Or.inl ?_|simp only [thenS,blockS]|with_reducible refine And.intro ?_ ?_|with_reducible exact True.intro|simp (dsimp:=false) only [↓gq,↓stepP,↓stepG,go_sem,hg,c1,w1,beq_self_eq_true])
      all_goals (try (first|(intro hg;simp [hg];done)|exact of_decide_eq_true rfl|(cases h;done)))
      exact Sub.view V0 (by simp [L69]) rfl (by simp [L69,ht]) (by simp [L69,ht])
    · have n0 : (putE 0 (fillS (a.take i)).1 x == 0) = false := by rw [beq_eq_false_iff_ne]; exact he
      rw [if_neg he] at r50 ht
      unfold bookD Item.d Item.cells at r50
      unfold L69
      repeat' (first|((first|refine goA rfl fun K hK=>?_|refine goB rfl fun K hK=>?_|refine goC rfl rfl fun K hK=>?_|refine goD rfl rfl fun K hK=>?_);simp (dsimp:=false) only [↓gq,↓stepP,↓stepG,go_sem,hg,c1,w1,n0])|refine Pwp.seq ?_|refine Pwp.block ?_|(refine Pwp.exit ?_;simp only [thenS,blockS,if_true,if_false,reduceIte,Nat.reduceEqDiff,Nat.add_one_ne_zero,reduceCtorEq])|(refine Pwp.skip ?_;simp only [thenS,blockS])|(refine Pwp.cond rfl True.intro (fun h=>?_) (fun h=>?_)<;>(try (cases h;done))<;>(try simp only [h]))|refine Pwp.ret ?_|(refine hK _ ?_;clear hK K)|(refine hK _ _ rfl ?_;clear hK K)|(refine CallK.give (ds:=[.agg [I64 0, .slc 8 (itemsD (fillS (a.take i)).1), .slc 3 []], .agg [I64 x.seller, I64 x.number, I64 x.buyer, I64 x.currency, I64 x.amount, I64 x.round, I64 x.state, I64 x.cycle]]) rfl (r50) (by simp) ?_)|refine CallG.off ?_|with_reducible refine Or.inl ?_|simp only [thenS,blockS]|with_reducible refine And.intro ?_ ?_|with_reducible exact True.intro|simp (dsimp:=false) only [↓gq,↓stepP,↓stepG,go_sem,hg,c1,w1,n0])
      all_goals (try (first|(intro hg;simp [hg];done)|exact of_decide_eq_true rfl|(cases h;done)))
      exact Sub.view V0 (by simp [L69]) rfl (by simp [L69,ht]) (by simp [L69,ht])
  · have c1 := dge (Nat.le_refl a.length)
    unfold L69 bookD rdD RDesk.d RDesk.cells
    rw [List.take_length]
    repeat' (first|((first|refine goA rfl fun K hK=>?_|refine goB rfl fun K hK=>?_|refine goC rfl rfl fun K hK=>?_|refine goD rfl rfl fun K hK=>?_);simp (dsimp:=false) only [↓gq,↓stepP,↓stepG,go_sem,c1,beq_self_eq_true])|refine Pwp.seq ?_|refine Pwp.block ?_|(refine Pwp.exit ?_;simp only [thenS,blockS,if_true,if_false,reduceIte,Nat.reduceEqDiff,Nat.add_one_ne_zero,reduceCtorEq])|(refine Pwp.skip ?_;simp only [thenS,blockS])|(refine Pwp.cond rfl True.intro (fun h=>?_) (fun h=>?_)<;>(try (cases h;done))<;>(try simp only [h]))|refine Pwp.ret ?_|(refine hK _ ?_;clear hK K)|(refine hK _ _ rfl ?_;clear hK K)|refine CallG.off ?_|with_reducible refine Or.inl ?_|simp only [thenS,blockS]|with_reducible refine And.intro ?_ ?_|with_reducible exact True.intro|simp (dsimp:=false) only [↓gq,↓stepP,↓stepG,go_sem,c1,beq_self_eq_true])
    all_goals (try (first|(intro hg;simp [hg];done)|exact of_decide_eq_true rfl|(cases h;done)))
    (refine Fin.data (.inr rfl) (by simp (dsimp:=false) only [↓gq,↓stepP,↓stepG,go_sem,resL]; rfl) (by simp only [and_self]) (by simp (dsimp:=false) only [↓gq,↓stepP,↓stepG,go_sem,resP,Nat.le_refl,List.take_length]; try rfl) ?_)
    exact subD_refl _
end Go.Proofs.Ytdodgbhodkcckaa.Pv
end
section
set_option linter.unusedVariables false
set_option linter.unusedSimpArgs false
set_option autoImplicit false
namespace Go.Proofs.Ytdodgbhodkcckaa.Pv
open Go Go.RowKit
theorem cmpI_lt {a n : Int} : cmpI a n < 0 ↔ a < n := by unfold cmpI; split <;> (try split) <;> omega
theorem cmpI_eq {a n : Int} : cmpI a n = 0 ↔ a = n := by unfold cmpI; split <;> (try split) <;> omega
theorem posC_below {l : List Part} (h : Rising Part.cycle l) (n : Int) : posC l n = (below Part.cycle l n).length :=
  bs_rising h fun i y hy => by simp only [cmpC, hy]; exact cmpI_lt
theorem isC_seek {l : List Part} (h : Rising Part.cycle l) (n : Int) : isC l n = (seek Part.cycle l n).isSome := by
  unfold isC
  rw [posC_below h]
  exact bs_there fun i y hy => by simp only [cmpC, hy]; exact cmpI_eq
theorem getC_seek {l : List Part} (h : Rising Part.cycle l) (n : Int) : getC l n = (seek Part.cycle l n).getD Part.zero := by
  unfold getC
  rw [isC_seek h, posC_below h]
  cases hs : seek Part.cycle l n with
  | none => simp
  | some y => simp [(seek_at hs).1]
theorem putC_enter {l : List Part} (h : Rising Part.cycle l) (x : Part) : putC l x = enter Part.cycle x l := by
  unfold putC
  rw [isC_seek h, posC_below h]
  cases hs : seek Part.cycle l x.cycle with
  | none => simp only [Option.isSome_none, Bool.false_eq_true, if_false]; exact enter_none (y := x) hs
  | some y => simp only [Option.isSome_some, if_true]; exact enter_some (y := x) hs
theorem getC_mem {l : List Part} (h : Rising Part.cycle l) {n : Int} (hi : isC l n = true) : getC l n ∈ l ∧ (getC l n).cycle = n := by
  rw [isC_seek h] at hi
  rw [getC_seek h]
  cases hs : seek Part.cycle l n with
  | none => rw [hs] at hi; cases hi
  | some y => exact (seek_some_iff h).1 hs
structure PGd (p : VP) (k : Nat) : Prop where
  rise : Rising Part.cycle p.list
  pl : p.list.length ≤ k
  ls : ∀ x ∈ p.list, x.lines.length ≤ 1000
theorem PGd.put {p : VP} {k : Nat} (h : PGd p k) {x : Part} (hx : x.lines.length ≤ 1000) : PGd { p with list := putC p.list x } (k + 1) := by
  have e := putC_enter h.rise x
  refine ⟨?_, ?_, ?_⟩
  · simp only; rw [e]; exact rising_enter h.rise x
  · simp only; rw [e, length_enter]; have := h.pl; split <;> omega
  · intro y hy
    simp only at hy
    rw [e] at hy
    rcases (mem_enter h.rise).1 hy with rfl | ⟨h1, _⟩
    · exact hx
    · exact h.ls y h1
theorem PGd.mono {p : VP} {k : Nat} (h : PGd p k) : PGd p (k + 1) := ⟨h.rise, Nat.le_succ_of_le h.pl, h.ls⟩
theorem getC_lines {p : VP} {k : Nat} (h : PGd p k) (n : Int) : (getC p.list n).lines.length ≤ 1000 := by
  cases hi : isC p.list n with
  | true => exact h.ls _ (getC_mem h.rise hi).1
  | false => unfold getC; rw [hi]; simp [Part.zero]
theorem mine_le (me : Int) (ls : List Line) : (mineL me ls).length ≤ ls.length := List.length_filter_le _ _
theorem askBad_ok {m : Msg} (h : askBad m = false) : 1 ≤ m.cycle ∧ m.cycle ≤ 1048576 ∧ 0 ≤ m.currency ∧ m.currency < 8 := by
  unfold askBad at h
  simp only [Bool.or_eq_false_iff, decide_eq_false_iff_not] at h
  omega
theorem voteR_cases {p : VP} {l : List Item} {m : VMsg} {f : Int} (Q : VOut → Prop) (h0 : ∀ e, e ≠ 0 → Q ⟨e, p, l, none⟩)
    (h1 : m.kind = 10 → f = p.n → askBad m.msg = false → isC p.list m.cycle = false → Q ⟨0, { p with list := putC p.list ⟨m.cycle, m.currency, 1, []⟩ }, foldB (withC m.cycle) (askL m.currency l) l, some (saidD p.n (offerM m.cycle ((askL m.currency l).map lineOf)))⟩)
    (h2 : m.kind = 12 → f = p.n → isC p.list m.cycle = true → (getC p.list m.cycle).state = 1 → Q (if rightR p l m.cycle m.ls m.ns = true then ⟨0, { p with list := putC p.list { getC p.list m.cycle with state := 2, lines := mineL p.me m.ls } }, l, some (saidD p.n (voteM m.cycle true))⟩ else ⟨0, { p with list := putC p.list { getC p.list m.cycle with state := 3 } }, l, some (saidD p.n (voteM m.cycle false))⟩))
    (h3 : m.kind = 14 → f = p.n → isC p.list m.cycle = true → decBad p m.msg = false → Q ⟨0, { p with list := putC p.list { getC p.list m.cycle with state := if m.yes = true then 4 else 5 } }, foldB (endI m.yes (getC p.list m.cycle).lines) (keepF (notHeld m.cycle) l) l, none⟩)
    (h4 : m.kind = 16 → f = -1 → isC p.list m.cycle = true → Q ⟨0, p, l, some (saidD p.n (queryM m.cycle))⟩) : Q (voteR p l m f) := by
  have gate : ∀ (r : VOut), ((m.kind = 16 ↔ f = -1) → (f = -1 ∨ f = p.n) → Q r) → Q (gateV p l m.msg f r) := by
    intro r hr
    unfold gateV
    split
    · exact h0 110 (by decide)
    · rename_i hn1
      split
      · exact h0 140 (by decide)
      · rename_i hn2
        refine hr ?_ ?_
        · simp only [VMsg.msg, Bool.not_eq_true', Bool.not_eq_true, Bool.not_eq_false'] at hn1
          have : (m.kind == 16) = (f == -1) := by simpa using hn1
          constructor
          · intro h; rw [h] at this; simpa using this.symm
          · intro h; rw [h] at this; simpa using this
        · simp only [Bool.and_eq_true, bne_iff_ne, ne_eq, not_and, Decidable.not_not] at hn2
          by_cases hf : f = -1
          · exact .inl hf
          · exact .inr (hn2 hf)
  unfold voteR voteK
  split
  · rename_i hk
    have hk : m.kind = 10 := by simpa [VMsg.msg] using hk
    refine gate _ fun g1 g2 => ?_
    have hf : f = p.n := g2.resolve_left fun h => by have := g1.2 h; omega
    unfold askR
    split
    · exact h0 1 (by decide)
    · rename_i hb
      split
      · exact h0 5 (by decide)
      · rename_i hc
        exact h1 hk hf (by simpa using hb) (by simpa [VMsg.msg] using hc)
  · split
    · rename_i hk
      have hk : m.kind = 12 := by simpa [VMsg.msg] using hk
      refine gate _ fun g1 g2 => ?_
      have hf : f = p.n := g2.resolve_left fun h => by have := g1.2 h; omega
      unfold prepR
      split
      · exact h0 4 (by decide)
      · rename_i hc
        split
        · exact h0 90 (by decide)
        · rename_i hs
          exact h2 hk hf (by simpa [VMsg.msg] using hc) (by simpa [VMsg.msg] using hs)
    · split
      · rename_i hk
        have hk : m.kind = 14 := by simpa [VMsg.msg] using hk
        refine gate _ fun g1 g2 => ?_
        have hf : f = p.n := g2.resolve_left fun h => by have := g1.2 h; omega
        unfold decR
        split
        · exact h0 4 (by decide)
        · rename_i hc
          split
          · exact h0 90 (by decide)
          · rename_i hs
            exact h3 hk hf (by simpa [VMsg.msg] using hc) (by simpa using hs)
      · split
        · rename_i hk
          have hk : m.kind = 16 := by simpa [VMsg.msg] using hk
          refine gate _ fun g1 g2 => ?_
          unfold dueC
          split
          · exact h0 4 (by decide)
          · rename_i hc
            split
            · exact h0 90 (by decide)
            · exact h4 hk (g1.1 hk) (by simpa [VMsg.msg] using hc)
        · exact h0 110 (by decide)
theorem withC_key (c : Int) (x : Item) : kI (withC c x) = kI x := rfl
theorem endI_kI (yes : Bool) (ls : List Line) (x : Item) : kI (endI yes ls x) = kI x := by unfold kI; rw [(endI_key yes ls x).1, (endI_key yes ls x).2.1]
theorem ask_map {me : Int} {l : List Item} (h : Good me l) {c n : Int} (hn : 1 ≤ n ∧ n ≤ 1048576) : foldB (withC n) (askL c l) l = l.map (fun x => if x ∈ askL c l then withC n x else x) ∧ Good me (foldB (withC n) (askL c l) l) :=
  ⟨foldB_map h (askL_sub c l) (withC_key n) (ask_ok h hn), foldB_good _ _ h (ask_ok h hn)⟩
theorem end_map {me : Int} {l : List Item} (h : Good me l) (n : Int) (yes : Bool) (ls : List Line) : foldB (endI yes ls) (keepF (notHeld n) l) l = l.map (fun x => if x ∈ keepF (notHeld n) l then endI yes ls x else x) ∧ Good me (foldB (endI yes ls) (keepF (notHeld n) l) l) :=
  ⟨foldB_map h (held_sub n l) (endI_kI yes ls) (end_ok h yes ls), foldB_good _ _ h (end_ok h yes ls)⟩
theorem voteR_inv {p : VP} {l : List Item} {m : VMsg} {f me : Int} {k : Nat} (hG : Good me l) (hP : PGd p k) (hls : m.ls.length ≤ 1000) :
    Good me (voteR p l m f).l ∧ (voteR p l m f).l.length = l.length ∧ PGd (voteR p l m f).p (k + 1) ∧ (voteR p l m f).p.me = p.me ∧ (voteR p l m f).p.n = p.n := by
  refine voteR_cases (fun R => Good me R.l ∧ R.l.length = l.length ∧ PGd R.p (k + 1) ∧ R.p.me = p.me ∧ R.p.n = p.n) ?_ ?_ ?_ ?_ ?_
  · intro e _; exact ⟨hG, rfl, hP.mono, rfl, rfl⟩
  · intro _ _ hb _
    have hb2 := askBad_ok hb
    obtain ⟨e1, e2⟩ := ask_map hG (c := m.currency) (n := m.cycle) ⟨hb2.1, hb2.2.1⟩
    exact ⟨e2, by simp only; rw [e1, List.length_map], hP.put (by simp), rfl, rfl⟩
  · intro _ _ _ _
    split
    · exact ⟨hG, rfl, hP.put (by simp only; have := mine_le p.me m.ls; omega), rfl, rfl⟩
    · exact ⟨hG, rfl, hP.put (getC_lines hP _), rfl, rfl⟩
  · intro _ _ _ _
    obtain ⟨e1, e2⟩ := end_map hG m.cycle m.yes (getC p.list m.cycle).lines
    exact ⟨e2, by simp only; rw [e1, List.length_map], hP.put (getC_lines hP _), rfl, rfl⟩
  · intro _ _ _; exact ⟨hG, rfl, hP.mono, rfl, rfl⟩
end Go.Proofs.Ytdodgbhodkcckaa.Pv
end
section
set_option linter.unusedVariables false
set_option linter.unusedSimpArgs false
set_option autoImplicit false
set_option maxRecDepth 100000
namespace Go.Proofs.Ytdodgbhodkcckaa.Pv
open Go Go.RowKit
theorem split_get {α : Type} {l : List α} {k : Nat} {z : α} (h : l[k]? = some z) : l = l.take k ++ z :: l.drop (k + 1) := by
  obtain ⟨hk, rfl⟩ := List.getElem?_eq_some_iff.1 h
  rw [← List.drop_eq_getElem_cons hk, List.take_append_drop]
theorem set_split {α : Type} {l : List α} {k : Nat} {z : α} (h : l[k]? = some z) (y : α) : l.set k y = l.take k ++ y :: l.drop (k + 1) := by
  have hk := (List.getElem?_eq_some_iff.1 h).1
  rw [List.set_eq_take_append_cons_drop, if_pos hk]
theorem set_perm {α : Type} {l A B : List α} {k : Nat} {z : α} (hz : l[k]? = some z) (h : l.Perm (A ++ z :: B)) (y : α) : (l.set k y).Perm (A ++ y :: B) := by
  rw [set_split hz]
  have h1 : (z :: (l.take k ++ l.drop (k + 1))).Perm (z :: (A ++ B)) := by
    have e := split_get hz
    have p1 : l.Perm (z :: (l.take k ++ l.drop (k + 1))) := by
      have := List.perm_middle (a := z) (l₁ := l.take k) (l₂ := l.drop (k + 1))
      rw [← e] at this
      exact this
    exact p1.symm.trans (h.trans List.perm_middle)
  have h2 := List.Perm.cons_inv h1
  exact List.perm_middle.trans ((List.Perm.cons y h2).trans List.perm_middle.symm)
theorem isNm_key {s n : Int} {y : Item} (hn : In64 n) (hy : In64 y.number) : isNm s n y = true ↔ kI y = keyN s n := by
  unfold isNm kI
  rw [Bool.and_eq_true, beq_iff_eq, beq_iff_eq, keyN_inj hy hn]
structure RelI (me : Int) (l w : List Item) : Prop where
  gd : Good me l
  pm : w.Perm l
theorem rel_has {me : Int} {l w : List Item} (h : RelI me l w) {s n : Int} (hn : In64 n) : (fndV s n 0 w = -1 ∧ isIn l s n = false ∧ seek kI l (keyN s n) = none) ∨ ∃ (k : Nat) (y : Item), fndV s n 0 w = ((0 + k : Nat) : Int) ∧ w[k]? = some y ∧ isIn l s n = true ∧ getI l s n = y ∧ seek kI l (keyN s n) = some y := by
  rcases fnd_at s n w 0 with ⟨h1, h2⟩ | ⟨k, y, h1, h2, h3⟩
  · left
    have hs : seek kI l (keyN s n) = none := by
      rw [seek_none_iff h.gd.rise]
      intro y hy e
      have := h2 y (h.pm.mem_iff.2 hy)
      rw [(isNm_key hn (h.gd.fine y hy).num).2 e] at this
      cases this
    exact ⟨h1, by rw [in_seek h.gd hn, hs]; rfl, hs⟩
  · right
    have hy := h.pm.mem_iff.1 (List.mem_of_getElem? h2)
    have hs : seek kI l (keyN s n) = some y := (seek_some_iff h.gd.rise).2 ⟨hy, (isNm_key hn (h.gd.fine y hy).num).1 h3⟩
    exact ⟨k, y, h1, h2, by rw [in_seek h.gd hn, hs]; rfl, by rw [get_seek h.gd hn, hs]; rfl, hs⟩
theorem keep_perm {me : Int} {l w : List Item} (h : RelI me l w) {x : Item} (hf : Fine x) (hm : x.seller = me ∨ x.buyer = me) : RelI me (putIn l x) (keepL2 w x) := by
  refine ⟨by rw [put_enter h.gd hf.num]; exact h.gd.enter hf hm, ?_⟩
  rw [put_enter h.gd hf.num]
  unfold keepL2
  rcases rel_has h (s := x.seller) hf.num with ⟨h1, _, h3⟩ | ⟨k, y, h1, h2, _, _, h3⟩
  · rw [h1, if_pos (by decide)]
    have e := enter_none (k := kI) (y := x) h3
    rw [← e]
    refine List.Perm.trans ?_ List.perm_middle.symm
    refine (List.perm_append_comm).trans ?_
    show (x :: w).Perm _
    refine List.Perm.cons x (h.pm.trans ?_)
    rw [List.take_append_drop]
  · rw [h1, Nat.zero_add, if_neg (by omega), Int.toNat_natCast]
    have hl : l = below kI l (kI x) ++ y :: rest kI l (kI x) := by
      have h3' : seek kI l (kI x) = some y := h3
      rw [← rest_some h3', split_at]
    have e : enter kI x l = below kI l (kI x) ++ x :: rest kI l (kI x) := rfl
    rw [e]
    refine set_perm h2 ?_ x
    rw [← hl]
    exact h.pm
end Go.Proofs.Ytdodgbhodkcckaa.Pv
end
section
set_option linter.unusedVariables false
set_option linter.unusedSimpArgs false
set_option autoImplicit false
set_option maxRecDepth 100000
namespace Go.Proofs.Ytdodgbhodkcckaa.Pv
open Go Go.RowKit
def aheadN (a b c d : Int) : Bool := decide (a < c) || (a == c && decide (b < d))
theorem run234 (a b c d : Int) : Runs Try.prog 234 [.d (.agg [I64 a, I64 b]), .d (.agg [I64 c, I64 d])] [] (pbool (aheadN a b c d)) [] := by
  unfold aheadN
  refine Runs.of (kit Try.prog) Try.func234 rfl rfl (by rw [Try.ntmps234]; exact of_decide_eq_true rfl) ?_; rw [Try.ntmps234, Try.results234]
  repeat' (first|((first|refine goA rfl fun K hK=>?_|refine goB rfl fun K hK=>?_|refine goC rfl rfl fun K hK=>?_|refine goD rfl rfl fun K hK=>?_);simp (dsimp:=false) only [↓gq,↓stepP,↓stepG,go_sem])|refine Pwp.seq ?_|refine Pwp.block ?_|(refine Pwp.exit ?_;simp only [thenS,blockS,if_true,if_false,reduceIte,Nat.reduceEqDiff,Nat.add_one_ne_zero,reduceCtorEq])|(refine Pwp.skip ?_;simp only [thenS,blockS])|(refine Pwp.cond rfl True.intro (fun h=>?_) (fun h=>?_)<;>(try (cases h;done))<;>(try simp only [h]))|refine Pwp.ret ?_|(refine hK _ ?_;clear hK K)|(refine hK _ _ rfl ?_;clear hK K)|refine CallG.off ?_|with_reducible refine Or.inl ?_|simp only [thenS,blockS]|with_reducible refine And.intro ?_ ?_|with_reducible exact True.intro|simp (dsimp:=false) only [↓gq,↓stepP,↓stepG,go_sem])
  all_goals (try (first|(intro hg;simp [hg];done)|exact of_decide_eq_true rfl|(cases h;done)))
  all_goals (try (intro hg; simp only [hg, Bool.not_false, Bool.not_true, Bool.and_self, Bool.true_and, Bool.and_true, true_and, and_self, imp_self, implies_true]; done))
  (refine Fin.data (.inr rfl) (by simp (dsimp:=false) only [↓gq,↓stepP,↓stepG,go_sem,resL]; rfl) (by simp only [and_self]) (by simp (dsimp:=false) only [↓gq,↓stepP,↓stepG,go_sem,resP,Nat.le_refl,List.take_length]; try rfl) ?_)
  exact subD_refl _
theorem run194 (x : Item) : Runs Try.prog 194 [.d x.d] [] (.d (lineOf x).d) [] := by
  unfold Item.d Item.cells lineOf Line.d Line.cells
  refine Runs.of (kit Try.prog) Try.func194 rfl rfl (by rw [Try.ntmps194]; exact of_decide_eq_true rfl) ?_; rw [Try.ntmps194, Try.results194]
  repeat' (first|((first|refine goA rfl fun K hK=>?_|refine goB rfl fun K hK=>?_|refine goC rfl rfl fun K hK=>?_|refine goD rfl rfl fun K hK=>?_);simp (dsimp:=false) only [↓gq,↓stepP,↓stepG,go_sem])|refine Pwp.seq ?_|refine Pwp.block ?_|(refine Pwp.exit ?_;simp only [thenS,blockS,if_true,if_false,reduceIte,Nat.reduceEqDiff,Nat.add_one_ne_zero,reduceCtorEq])|(refine Pwp.skip ?_;simp only [thenS,blockS])|(refine Pwp.cond rfl True.intro (fun h=>?_) (fun h=>?_)<;>(try (cases h;done))<;>(try simp only [h]))|refine Pwp.ret ?_|(refine hK _ ?_;clear hK K)|(refine hK _ _ rfl ?_;clear hK K)|refine CallG.off ?_|with_reducible refine Or.inl ?_|simp only [thenS,blockS]|with_reducible refine And.intro ?_ ?_|with_reducible exact True.intro|simp (dsimp:=false) only [↓gq,↓stepP,↓stepG,go_sem])
  all_goals (try (first|(intro hg;simp [hg];done)|exact of_decide_eq_true rfl|(cases h;done)))
  (refine Fin.data (.inr rfl) (by simp (dsimp:=false) only [↓gq,↓stepP,↓stepG,go_sem,resL]; rfl) (by simp only [and_self]) (by simp (dsimp:=false) only [↓gq,↓stepP,↓stepG,go_sem,resP,Nat.le_refl,List.take_length]; try rfl) ?_)
  exact subD_refl _
def L195 (l : List Line) (x : Line) (i : Nat) : St := ⟨[(5, pint .i64 i), (3, .ref 8 0), (0, .d (.slc 4 (linesD l)))], [(8, .box [.d (I64 x.seller), .d (I64 x.number), .d (I64 x.buyer), .d (I64 x.amount)])], 20⟩
set_option maxHeartbeats 8000000 in
theorem run195 (l : List Line) (x : Line) (hl : l.length ≤ 100000) : Runs Try.prog 195 [.d (.slc 4 (linesD l)), .d x.d] [] (pbool (decide (x ∈ l))) [] := by
  have hlen := lines_len l
  unfold Line.d Line.cells
  refine Runs.of (kit Try.prog) Try.func195 rfl rfl (by rw [Try.ntmps195]; exact of_decide_eq_true rfl) ?_; rw [Try.ntmps195, Try.results195]
  repeat' (first|((first|refine goA rfl fun K hK=>?_|refine goB rfl fun K hK=>?_|refine goC rfl rfl fun K hK=>?_|refine goD rfl rfl fun K hK=>?_);simp (dsimp:=false) only [↓gq,↓stepP,↓stepG,go_sem,hlen])|refine Pwp.seq ?_|refine Pwp.block ?_|(refine Pwp.exit ?_;simp only [thenS,blockS,if_true,if_false,reduceIte,Nat.reduceEqDiff,Nat.add_one_ne_zero,reduceCtorEq])|(refine Pwp.skip ?_;simp only [thenS,blockS])|(refine Pwp.cond rfl True.intro (fun h=>?_) (fun h=>?_)<;>(try (cases h;done))<;>(try simp only [h]))|refine Pwp.ret ?_|(refine hK _ ?_;clear hK K)|(refine hK _ _ rfl ?_;clear hK K)|refine CallG.off ?_|with_reducible refine Or.inl ?_|simp only [thenS,blockS]|with_reducible refine And.intro ?_ ?_|with_reducible exact True.intro|simp (dsimp:=false) only [↓gq,↓stepP,↓stepG,go_sem,hlen])
  all_goals (try (first|(intro hg;simp [hg];done)|exact of_decide_eq_true rfl|(cases h;done)))
  refine Pwp.rangeI l.length (fun i s => (∀ y ∈ l.take i, y ≠ x) ∧ s = L195 l x i) (s0 := L195 l x 0) (Sub.view V0 (by simp [L195]) rfl (by simp [L195]) (by simp [L195])) ⟨by simp, rfl⟩ ?_ ?_
  · rintro i s hi ⟨hok, rfl⟩
    obtain ⟨y, hy, hm⟩ := at_lt hi
    have hg := lines_get hy
    have c1 := dlt hi
    have w1 := wrap_succ (i := i) (by omega)
    cases hq : eqLn y x with
    | true =>
      have e := eqLn_iff.1 hq
      have hr : decide (x ∈ l) = true := decide_eq_true (e ▸ hm)
      rw [hr]
      unfold eqLn at hq
      unfold L195
      repeat' (first|((first|refine goA rfl fun K hK=>?_|refine goB rfl fun K hK=>?_|refine goC rfl rfl fun K hK=>?_|refine goD rfl rfl fun K hK=>?_);simp (dsimp:=false) only [↓gq,↓stepP,↓stepG,go_sem,hg,c1,w1,hlen,hq])|refine Pwp.seq ?_|refine Pwp.block ?_|(refine Pwp.exit ?_;simp only [thenS,blockS,if_true,if_false,reduceIte,Nat.reduceEqDiff,Nat.add_one_ne_zero,reduceCtorEq])|(refine Pwp.skip ?_;simp only [thenS,blockS])|(refine Pwp.cond rfl True.intro (fun h=>?_) (fun h=>?_)<;>(try (cases h;done))<;>(try simp only [h]))|refine Pwp.ret ?_|(refine hK _ ?_;clear hK K)|(refine hK _ _ rfl ?_;clear hK K)|refine CallG.off ?_|with_reducible refine Or.inl ?_|simp only [thenS,blockS]|with_reducible refine And.intro ?_ ?_|with_reducible exact True.intro|simp (dsimp:=false) only [↓gq,↓stepP,↓stepG,go_sem,hg,c1,w1,hlen,hq])
      all_goals (try (first|(intro hg;simp [hg];done)|exact of_decide_eq_true rfl|(cases h;done)))
      (refine Fin.data (.inr rfl) (by simp (dsimp:=false) only [↓gq,↓stepP,↓stepG,go_sem,resL]; rfl) (by simp only [and_self]) (by simp (dsimp:=false) only [↓gq,↓stepP,↓stepG,go_sem,resP,Nat.le_refl,List.take_length]; try rfl) ?_)
      exact subD_refl _
    | false =>
      have hne : y ≠ x := fun e => by rw [eqLn_iff.2 e] at hq; cases hq
      have hok' : ∀ z ∈ l.take (i + 1), z ≠ x := by
        intro z hz
        rw [List.take_add_one, hy] at hz
        rcases List.mem_append.1 hz with hz | hz
        · exact hok z hz
        · obtain rfl := by simpa using hz
          exact hne
      unfold eqLn at hq
      unfold L195
      repeat' (first|((first|refine goA rfl fun K hK=>?_|refine goB rfl fun K hK=>?_|refine goC rfl rfl fun K hK=>?_|refine goD rfl rfl fun K hK=>?_);simp (dsimp:=false) only [↓gq,↓stepP,↓stepG,go_sem,hg,c1,w1,hlen,hq])|refine Pwp.seq ?_|refine Pwp.block ?_|(refine Pwp.exit ?_;simp only [thenS,blockS,if_true,if_false,reduceIte,Nat.reduceEqDiff,Nat.add_one_ne_zero,reduceCtorEq])|(refine Pwp.skip ?_;simp only [thenS,blockS])|(refine Pwp.cond rfl True.intro (fun h=>?_) (fun h=>?_)<;>(try (cases h;done))<;>(try simp only [h]))|refine Pwp.ret ?_|(refine hK _ ?_;clear hK K)|(refine hK _ _ rfl ?_;clear hK K)|refine CallG.off ?_|with_reducible refine Or.inl ?_|simp only [thenS,blockS]|with_reducible refine And.intro ?_ ?_|with_reducible exact True.intro|simp (dsimp:=false) only [↓gq,↓stepP,↓stepG,go_sem,hg,c1,w1,hlen,hq])
      all_goals (try (first|(intro hg;simp [hg];done)|exact of_decide_eq_true rfl|(cases h;done)))
      exact ⟨_, Sub.view V0 (by simp [L195]) rfl (by simp [L195]) (by simp [L195]), hok', rfl⟩
  · rintro s ⟨hok, rfl⟩
    have c1 := dge (Nat.le_refl l.length)
    rw [List.take_length] at hok
    have hr : decide (x ∈ l) = false := decide_eq_false fun h => hok x h rfl
    rw [hr]
    unfold L195
    repeat' (first|((first|refine goA rfl fun K hK=>?_|refine goB rfl fun K hK=>?_|refine goC rfl rfl fun K hK=>?_|refine goD rfl rfl fun K hK=>?_);simp (dsimp:=false) only [↓gq,↓stepP,↓stepG,go_sem,c1,hlen])|refine Pwp.seq ?_|refine Pwp.block ?_|(refine Pwp.exit ?_;simp only [thenS,blockS,if_true,if_false,reduceIte,Nat.reduceEqDiff,Nat.add_one_ne_zero,reduceCtorEq])|(refine Pwp.skip ?_;simp only [thenS,blockS])|(refine Pwp.cond rfl True.intro (fun h=>?_) (fun h=>?_)<;>(try (cases h;done))<;>(try simp only [h]))|refine Pwp.ret ?_|(refine hK _ ?_;clear hK K)|(refine hK _ _ rfl ?_;clear hK K)|refine CallG.off ?_|with_reducible refine Or.inl ?_|simp only [thenS,blockS]|with_reducible refine And.intro ?_ ?_|with_reducible exact True.intro|simp (dsimp:=false) only [↓gq,↓stepP,↓stepG,go_sem,c1,hlen])
    all_goals (try (first|(intro hg;simp [hg];done)|exact of_decide_eq_true rfl|(cases h;done)))
    (refine Fin.data (.inr rfl) (by simp (dsimp:=false) only [↓gq,↓stepP,↓stepG,go_sem,resL]; rfl) (by simp only [and_self]) (by simp (dsimp:=false) only [↓gq,↓stepP,↓stepG,go_sem,resP,Nat.le_refl,List.take_length]; try rfl) ?_)
    exact subD_refl _
def fndC (n : Int) : Nat → List Part → Int
  | _, [] => -1
  | i, y :: l => if (y.cycle == n) = true then i else fndC n (i + 1) l
theorem fndC_at (n : Int) : ∀ (l : List Part) (i : Nat), (fndC n i l = -1 ∧ ∀ y ∈ l, y.cycle ≠ n) ∨ ∃ (k : Nat) (y : Part), fndC n i l = ((i + k : Nat) : Int) ∧ l[k]? = some y ∧ y.cycle = n
  | [], i => .inl ⟨rfl, by simp⟩
  | x :: l, i => by
    rw [fndC]
    by_cases hx : x.cycle = n
    · rw [if_pos (by simpa using hx)]
      exact .inr ⟨0, x, by simp, by simp, hx⟩
    · rw [if_neg (by simpa using hx)]
      rcases fndC_at n l (i + 1) with ⟨h1, h2⟩ | ⟨k, y, h1, h2, h3⟩
      · refine .inl ⟨h1, fun y hy => ?_⟩
        rcases List.mem_cons.1 hy with rfl | hy
        · exact hx
        · exact h2 y hy
      · exact .inr ⟨k + 1, y, by rw [h1]; congr 1; omega, by simpa using h2, h3⟩
def linesN : List Line → D
  | [] => nilD
  | y :: ys => .slc 4 (linesD (y :: ys))
def Part.cellsN (x : Part) : List D := [I64 x.cycle, I64 x.currency, I64 x.state, linesN x.lines]
def partsN (l : List Part) : List D := (l.map Part.cellsN).map .agg
def VP.dN (p : VP) : D := .agg [I64 p.me, I64 p.n, .slc 4 (partsN p.list)]
theorem partsN_len (l : List Part) : (partsN l).length = l.length := by simp [partsN]
theorem partsN_get {l : List Part} {i : Nat} {x : Part} (h : l[i]? = some x) : (partsN l)[i]? = some (.agg [I64 x.cycle, I64 x.currency, I64 x.state, linesN x.lines]) := by simp [partsN, h, Part.cellsN]
theorem partsN_one (l : List Part) : ∀ d ∈ partsN l, d.cells.all D.one = true := by
  intro d hd
  simp only [partsN, List.mem_map] at hd
  obtain ⟨_, ⟨x, _, rfl⟩, rfl⟩ := hd
  obtain ⟨a, b, c, ls⟩ := x
  cases ls <;> rfl
def L127 (q : VP) (n : Int) (i : Nat) : St := ⟨[(5, pint .i64 i), (2, .ref 8 0), (1, pint .i64 n)], [(8, .box [.d (I64 q.me), .d (I64 q.n), .d (.slc 4 (partsN q.list))])], 20⟩
theorem drop_consC {α : Type} {l : List α} {i : Nat} {x : α} (h : l[i]? = some x) : l.drop i = x :: l.drop (i + 1) := by
  obtain ⟨h1, h2⟩ := List.getElem?_eq_some_iff.1 h; rw [List.drop_eq_getElem_cons h1, h2]
set_option maxHeartbeats 8000000 in
theorem run127 (q : VP) (n : Int) (hl : q.list.length ≤ 100000) : Runs Try.prog 127 [.d q.dN, pint .i64 n] [] (pint .i64 (fndC n 0 q.list)) [] := by
  have hlen := partsN_len q.list
  unfold VP.dN
  refine Runs.of (kit Try.prog) Try.func127 rfl rfl (by rw [Try.ntmps127]; exact of_decide_eq_true rfl) ?_; rw [Try.ntmps127, Try.results127]
  repeat' (first|((first|refine goA rfl fun K hK=>?_|refine goB rfl fun K hK=>?_|refine goC rfl rfl fun K hK=>?_|refine goD rfl rfl fun K hK=>?_);simp (dsimp:=false) only [↓gq,↓stepP,↓stepG,go_sem,hlen])|refine Pwp.seq ?_|refine Pwp.block ?_|(refine Pwp.exit ?_;simp only [thenS,blockS,if_true,if_false,reduceIte,Nat.reduceEqDiff,Nat.add_one_ne_zero,reduceCtorEq])|(refine Pwp.skip ?_;simp only [thenS,blockS])|(refine Pwp.cond rfl True.intro (fun h=>?_) (fun h=>?_)<;>(try (cases h;done))<;>(try simp only [h]))|refine Pwp.ret ?_|(refine hK _ ?_;clear hK K)|(refine hK _ _ rfl ?_;clear hK K)|refine CallG.off ?_|with_reducible refine Or.inl ?_|simp only [thenS,blockS]|with_reducible refine And.intro ?_ ?_|with_reducible exact True.intro|simp (dsimp:=false) only [↓gq,↓stepP,↓stepG,go_sem,hlen])
  all_goals (try (first|(intro hg;simp [hg];done)|exact of_decide_eq_true rfl|(cases h;done)))
  refine Pwp.rangeI q.list.length (fun i s => fndC n i (q.list.drop i) = fndC n 0 q.list ∧ s = L127 q n i) (s0 := L127 q n 0) (Sub.view V0 (by simp [L127]) rfl (by simp [L127]) (by simp [L127])) ⟨rfl, rfl⟩ ?_ ?_
  · rintro i s hi ⟨hp, rfl⟩
    obtain ⟨y, hy, hm⟩ := at_lt hi
    have hg := partsN_get hy
    have c1 := dlt hi
    have w1 := wrap_succ (i := i) (by omega)
    rw [drop_consC hy, fndC] at hp
    cases hc : (y.cycle == n) with
    | true =>
      rw [hc, if_pos rfl] at hp
      unfold L127
      repeat' (first|((first|refine goA rfl fun K hK=>?_|refine goB rfl fun K hK=>?_|refine goC rfl rfl fun K hK=>?_|refine goD rfl rfl fun K hK=>?_);simp (dsimp:=false) only [↓gq,↓stepP,↓stepG,go_sem,hg,c1,w1,hlen,hc])|refine Pwp.seq ?_|refine Pwp.block ?_|(refine Pwp.exit ?_;simp only [thenS,blockS,if_true,if_false,reduceIte,Nat.reduceEqDiff,Nat.add_one_ne_zero,reduceCtorEq])|(refine Pwp.skip ?_;simp only [thenS,blockS])|(refine Pwp.cond rfl True.intro (fun h=>?_) (fun h=>?_)<;>(try (cases h;done))<;>(try simp only [h]))|refine Pwp.ret ?_|(refine hK _ ?_;clear hK K)|(refine hK _ _ rfl ?_;clear hK K)|refine CallG.off ?_|with_reducible refine Or.inl ?_|simp only [thenS,blockS]|with_reducible refine And.intro ?_ ?_|with_reducible exact True.intro|simp (dsimp:=false) only [↓gq,↓stepP,↓stepG,go_sem,hg,c1,w1,hlen,hc])
      all_goals (try (first|(intro hg;simp [hg];done)|exact of_decide_eq_true rfl|(cases h;done)))
      (refine Fin.data (.inr rfl) (by simp (dsimp:=false) only [↓gq,↓stepP,↓stepG,go_sem,resL]; rfl) (by simp only [and_self]) (by simp (dsimp:=false) only [↓gq,↓stepP,↓stepG,go_sem,resP,Nat.le_refl,List.take_length]; try rfl) ?_)
      rw [← hp]
      exact subD_refl _
    | false =>
      rw [hc, if_neg (by simp)] at hp
      unfold L127
      repeat' (first|((first|refine goA rfl fun K hK=>?_|refine goB rfl fun K hK=>?_|refine goC rfl rfl fun K hK=>?_|refine goD rfl rfl fun K hK=>?_);simp (dsimp:=false) only [↓gq,↓stepP,↓stepG,go_sem,hg,c1,w1,hlen,hc])|refine Pwp.seq ?_|refine Pwp.block ?_|(refine Pwp.exit ?_;simp only [thenS,blockS,if_true,if_false,reduceIte,Nat.reduceEqDiff,Nat.add_one_ne_zero,reduceCtorEq])|(refine Pwp.skip ?_;simp only [thenS,blockS])|(refine Pwp.cond rfl True.intro (fun h=>?_) (fun h=>?_)<;>(try (cases h;done))<;>(try simp only [h]))|refine Pwp.ret ?_|(refine hK _ ?_;clear hK K)|(refine hK _ _ rfl ?_;clear hK K)|refine CallG.off ?_|with_reducible refine Or.inl ?_|simp only [thenS,blockS]|with_reducible refine And.intro ?_ ?_|with_reducible exact True.intro|simp (dsimp:=false) only [↓gq,↓stepP,↓stepG,go_sem,hg,c1,w1,hlen,hc])
      all_goals (try (first|(intro hg;simp [hg];done)|exact of_decide_eq_true rfl|(cases h;done)))
      exact ⟨_, Sub.view V0 (by simp [L127]) rfl (by simp [L127]) (by simp [L127]), hp, rfl⟩
  · rintro s ⟨hp, rfl⟩
    have c1 := dge (Nat.le_refl q.list.length)
    rw [List.drop_length, fndC] at hp
    unfold L127
    repeat' (first|((first|refine goA rfl fun K hK=>?_|refine goB rfl fun K hK=>?_|refine goC rfl rfl fun K hK=>?_|refine goD rfl rfl fun K hK=>?_);simp (dsimp:=false) only [↓gq,↓stepP,↓stepG,go_sem,c1,hlen])|refine Pwp.seq ?_|refine Pwp.block ?_|(refine Pwp.exit ?_;simp only [thenS,blockS,if_true,if_false,reduceIte,Nat.reduceEqDiff,Nat.add_one_ne_zero,reduceCtorEq])|(refine Pwp.skip ?_;simp only [thenS,blockS])|(refine Pwp.cond rfl True.intro (fun h=>?_) (fun h=>?_)<;>(try (cases h;done))<;>(try simp only [h]))|refine Pwp.ret ?_|(refine hK _ ?_;clear hK K)|(refine hK _ _ rfl ?_;clear hK K)|refine CallG.off ?_|with_reducible refine Or.inl ?_|simp only [thenS,blockS]|with_reducible refine And.intro ?_ ?_|with_reducible exact True.intro|simp (dsimp:=false) only [↓gq,↓stepP,↓stepG,go_sem,c1,hlen])
    all_goals (try (first|(intro hg;simp [hg];done)|exact of_decide_eq_true rfl|(cases h;done)))
    (refine Fin.data (.inr rfl) (by simp (dsimp:=false) only [↓gq,↓stepP,↓stepG,go_sem,resL]; rfl) (by simp only [and_self]) (by simp (dsimp:=false) only [↓gq,↓stepP,↓stepG,go_sem,resP,Nat.le_refl,List.take_length]; try rfl) ?_)
    rw [← hp]
    exact subD_refl _
def withL (l : List Part) (x : Part) : List Part := if fndC x.cycle 0 l < 0 then l ++ [x] else l.set (fndC x.cycle 0 l).toNat x
set_option maxHeartbeats 8000000 in
theorem run129 (q : VP) (x : Part) (hl : q.list.length ≤ 100000) : Runs Try.prog 129 [.d q.dN, .d (.agg x.cellsN)] [] (.d (VP.dN { q with list := withL q.list x })) [] := by
  have r := run127 q x.cycle hl
  have hlen := partsN_len q.list
  have hone := partsN_one q.list
  have htk : (partsN q.list).take q.list.length = partsN q.list := List.take_of_length_le (by omega)
  unfold withL
  rcases fndC_at x.cycle q.list 0 with ⟨h1, _⟩ | ⟨k, y, h1, h2, h3⟩
  · rw [h1] at r ⊢
    rw [if_pos (by decide)]
    have e : partsN (q.list ++ [x]) = partsN q.list ++ [.agg x.cellsN] := by simp [partsN]
    have hle : (partsN q.list ++ [(.agg x.cellsN : D)]).length = q.list.length + 1 := by simp [hlen]
    unfold VP.dN at *
    simp only [e]
    obtain ⟨xc, xu, xs, xl⟩ := x
    unfold Part.cellsN at *
    cases xl
    · unfold linesN at *
      refine Runs.of (kit Try.prog) Try.func129 rfl rfl (by rw [Try.ntmps129]; exact of_decide_eq_true rfl) ?_; rw [Try.ntmps129, Try.results129]
      repeat' (first|((first|refine goA rfl fun K hK=>?_|refine goB rfl fun K hK=>?_|refine goC rfl rfl fun K hK=>?_|refine goD rfl rfl fun K hK=>?_);simp (dsimp:=false) only [↓gq,↓stepP,↓stepG,go_sem,hlen,htk])|refine Pwp.seq ?_|refine Pwp.block ?_|(refine Pwp.exit ?_;simp only [thenS,blockS,if_true,if_false,reduceIte,Nat.reduceEqDiff,Nat.add_one_ne_zero,reduceCtorEq])|(refine Pwp.skip ?_;simp only [thenS,blockS])|(refine Pwp.cond rfl True.intro (fun h=>?_) (fun h=>?_)<;>(try (cases h;done))<;>(try simp only [h]))|refine Pwp.ret ?_|(refine hK _ ?_;clear hK K)|(refine hK _ _ rfl ?_;clear hK K)|(refine CallK.toD (ds:=[.agg [I64 q.me, I64 q.n, .slc 4 (partsN q.list)], I64 xc]) rfl (r) rfl ?_)|refine CallG.off ?_|with_reducible refine Or.inl ?_|simp only [thenS,blockS]|with_reducible refine And.intro ?_ ?_|with_reducible exact True.intro|simp (dsimp:=false) only [↓gq,↓stepP,↓stepG,go_sem,hlen,htk])
      all_goals (try (first|(intro hg;simp [hg];done)|exact of_decide_eq_true rfl|(cases h;done)))
      all_goals (try (first | exact hone | omega | (simp [maxLen]; omega) | exact ⟨by omega, by omega⟩))
      (refine Fin.data (.inr rfl) (by simp (dsimp:=false) only [↓gq,↓stepP,↓stepG,go_sem,resL,List.take_of_length_le,hle,hlen,Nat.le_refl]; rfl) (by simp only [and_self]) (by simp (dsimp:=false) only [↓gq,↓stepP,↓stepG,go_sem,resP,Nat.le_refl,List.take_length,List.take_of_length_le,hle,hlen,Nat.le_refl]; try rfl) ?_)
      exact subD_refl _
    · unfold linesN at *
      refine Runs.of (kit Try.prog) Try.func129 rfl rfl (by rw [Try.ntmps129]; exact of_decide_eq_true rfl) ?_; rw [Try.ntmps129, Try.results129]
      repeat' (first|((first|refine goA rfl fun K hK=>?_|refine goB rfl fun K hK=>?_|refine goC rfl rfl fun K hK=>?_|refine goD rfl rfl fun K hK=>?_);simp (dsimp:=false) only [↓gq,↓stepP,↓stepG,go_sem,hlen,htk])|refine Pwp.seq ?_|refine Pwp.block ?_|(refine Pwp.exit ?_;simp only [thenS,blockS,if_true,if_false,reduceIte,Nat.reduceEqDiff,Nat.add_one_ne_zero,reduceCtorEq])|(refine Pwp.skip ?_;simp only [thenS,blockS])|(refine Pwp.cond rfl True.intro (fun h=>?_) (fun h=>?_)<;>(try (cases h;done))<;>(try simp only [h]))|refine Pwp.ret ?_|(refine hK _ ?_;clear hK K)|(refine hK _ _ rfl ?_;clear hK K)|(refine CallK.toD (ds:=[.agg [I64 q.me, I64 q.n, .slc 4 (partsN q.list)], I64 xc]) rfl (r) rfl ?_)|refine CallG.off ?_|with_reducible refine Or.inl ?_|simp only [thenS,blockS]|with_reducible refine And.intro ?_ ?_|with_reducible exact True.intro|simp (dsimp:=false) only [↓gq,↓stepP,↓stepG,go_sem,hlen,htk])
      all_goals (try (first|(intro hg;simp [hg];done)|exact of_decide_eq_true rfl|(cases h;done)))
      all_goals (try (first | exact hone | omega | (simp [maxLen]; omega) | exact ⟨by omega, by omega⟩))
      (refine Fin.data (.inr rfl) (by simp (dsimp:=false) only [↓gq,↓stepP,↓stepG,go_sem,resL,List.take_of_length_le,hle,hlen,Nat.le_refl]; rfl) (by simp only [and_self]) (by simp (dsimp:=false) only [↓gq,↓stepP,↓stepG,go_sem,resP,Nat.le_refl,List.take_length,List.take_of_length_le,hle,hlen,Nat.le_refl]; try rfl) ?_)
      exact subD_refl _
  · rw [Nat.zero_add] at h1
    rw [h1] at r ⊢
    have hk := (List.getElem?_eq_some_iff.1 h2).1
    have c1 : decide ((k : Int) < 0) = false := by rw [decide_eq_false_iff_not]; omega
    have hg := partsN_get h2
    have ht := Int.toNat_natCast k
    have p0 : (0 : Int) ≤ (k : Int) := by omega
    rw [if_neg (by omega), ht]
    have e : partsN (q.list.set k x) = (partsN q.list).set k (.agg x.cellsN) := by simp [partsN, List.map_set]
    have hle : ((partsN q.list).set k (.agg x.cellsN)).length = q.list.length := by simp [hlen]
    unfold VP.dN at *
    simp only [e]
    obtain ⟨xc, xu, xs, xl⟩ := x
    unfold Part.cellsN at *
    cases xl
    · unfold linesN at *
      refine Runs.of (kit Try.prog) Try.func129 rfl rfl (by rw [Try.ntmps129]; exact of_decide_eq_true rfl) ?_; rw [Try.ntmps129, Try.results129]
      repeat' (first|((first|refine goA rfl fun K hK=>?_|refine goB rfl fun K hK=>?_|refine goC rfl rfl fun K hK=>?_|refine goD rfl rfl fun K hK=>?_);simp (dsimp:=false) only [↓gq,↓stepP,↓stepG,go_sem,hlen,htk,c1,hg,ht,p0])|refine Pwp.seq ?_|refine Pwp.block ?_|(refine Pwp.exit ?_;simp only [thenS,blockS,if_true,if_false,reduceIte,Nat.reduceEqDiff,Nat.add_one_ne_zero,reduceCtorEq])|(refine Pwp.skip ?_;simp only [thenS,blockS])|(refine Pwp.cond rfl True.intro (fun h=>?_) (fun h=>?_)<;>(try (cases h;done))<;>(try simp only [h]))|refine Pwp.ret ?_|(refine hK _ ?_;clear hK K)|(refine hK _ _ rfl ?_;clear hK K)|(refine CallK.toD (ds:=[.agg [I64 q.me, I64 q.n, .slc 4 (partsN q.list)], I64 xc]) rfl (r) rfl ?_)|refine CallG.off ?_|with_reducible refine Or.inl ?_|simp only [thenS,blockS]|with_reducible refine And.intro ?_ ?_|with_reducible exact True.intro|simp (dsimp:=false) only [↓gq,↓stepP,↓stepG,go_sem,hlen,htk,c1,hg,ht,p0])
      all_goals (try (first|(intro hg;simp [hg];done)|exact of_decide_eq_true rfl|(cases h;done)))
      all_goals (try (first | exact hone | omega | (simp [maxLen]; omega) | exact ⟨by omega, by omega⟩))
      (refine Fin.data (.inr rfl) (by simp (dsimp:=false) only [↓gq,↓stepP,↓stepG,go_sem,resL,List.take_of_length_le,hle,hlen,Nat.le_refl]; rfl) (by simp only [and_self]) (by simp (dsimp:=false) only [↓gq,↓stepP,↓stepG,go_sem,resP,Nat.le_refl,List.take_length,List.take_of_length_le,hle,hlen,Nat.le_refl]; try rfl) ?_)
      exact subD_refl _
    · unfold linesN at *
      refine Runs.of (kit Try.prog) Try.func129 rfl rfl (by rw [Try.ntmps129]; exact of_decide_eq_true rfl) ?_; rw [Try.ntmps129, Try.results129]
      repeat' (first|((first|refine goA rfl fun K hK=>?_|refine goB rfl fun K hK=>?_|refine goC rfl rfl fun K hK=>?_|refine goD rfl rfl fun K hK=>?_);simp (dsimp:=false) only [↓gq,↓stepP,↓stepG,go_sem,hlen,htk,c1,hg,ht,p0])|refine Pwp.seq ?_|refine Pwp.block ?_|(refine Pwp.exit ?_;simp only [thenS,blockS,if_true,if_false,reduceIte,Nat.reduceEqDiff,Nat.add_one_ne_zero,reduceCtorEq])|(refine Pwp.skip ?_;simp only [thenS,blockS])|(refine Pwp.cond rfl True.intro (fun h=>?_) (fun h=>?_)<;>(try (cases h;done))<;>(try simp only [h]))|refine Pwp.ret ?_|(refine hK _ ?_;clear hK K)|(refine hK _ _ rfl ?_;clear hK K)|(refine CallK.toD (ds:=[.agg [I64 q.me, I64 q.n, .slc 4 (partsN q.list)], I64 xc]) rfl (r) rfl ?_)|refine CallG.off ?_|with_reducible refine Or.inl ?_|simp only [thenS,blockS]|with_reducible refine And.intro ?_ ?_|with_reducible exact True.intro|simp (dsimp:=false) only [↓gq,↓stepP,↓stepG,go_sem,hlen,htk,c1,hg,ht,p0])
      all_goals (try (first|(intro hg;simp [hg];done)|exact of_decide_eq_true rfl|(cases h;done)))
      all_goals (try (first | exact hone | omega | (simp [maxLen]; omega) | exact ⟨by omega, by omega⟩))
      (refine Fin.data (.inr rfl) (by simp (dsimp:=false) only [↓gq,↓stepP,↓stepG,go_sem,resL,List.take_of_length_le,hle,hlen,Nat.le_refl]; rfl) (by simp only [and_self]) (by simp (dsimp:=false) only [↓gq,↓stepP,↓stepG,go_sem,resP,Nat.le_refl,List.take_length,List.take_of_length_le,hle,hlen,Nat.le_refl]; try rfl) ?_)
      exact subD_refl _
theorem ahead_key {x y : Item} (hx : Fine x) (hy : Fine y) : aheadN x.seller x.number y.seller y.number = decide (kI x < kI y) := by
  have := hx.n; have := hy.n
  rw [Bool.eq_iff_iff]
  unfold aheadN kI keyN
  simp only [Bool.or_eq_true, Bool.and_eq_true, decide_eq_true_eq, beq_iff_eq]
  omega
def Sorted (a : Nat) (l : List Item) : Prop := ∀ (i j : Nat) (x y : Item), i < a → i < j → l[i]? = some x → l[j]? = some y → kI x ≤ kI y
def Least (a b : Nat) (l : List Item) : Prop := ∀ (j : Nat) (x y : Item), a < j → j < b → l[a]? = some x → l[j]? = some y → kI x ≤ kI y
theorem swap_perm {l : List Item} {a b : Nat} {x y : Item} (ha : l[a]? = some x) (hb : l[b]? = some y) (hab : a < b) : ((l.set a y).set b x).Perm l := by
  have h1 := split_get ha
  have hal := (List.getElem?_eq_some_iff.1 ha).1
  have hbl := (List.getElem?_eq_some_iff.1 hb).1
  have e1 : l.set a y = l.take a ++ y :: l.drop (a + 1) := set_split ha y
  have hb2 : (l.set a y)[b]? = some y := by rw [List.getElem?_set_ne (by omega)]; exact hb
  have p1 : ((l.set a y).set b x).Perm (x :: (l.set a y).eraseIdx b) := by
    rw [set_split hb2, List.eraseIdx_eq_take_drop_succ]
    exact List.perm_middle
  have p2 : (l.set a y).Perm (y :: (l.set a y).eraseIdx b) := by
    conv => lhs; rw [split_get hb2]
    rw [List.eraseIdx_eq_take_drop_succ]
    exact List.perm_middle
  have p3 : (l.set a y).Perm (y :: l.eraseIdx a) := by
    rw [e1, List.eraseIdx_eq_take_drop_succ]; exact List.perm_middle
  have p4 : l.Perm (x :: l.eraseIdx a) := by
    conv => lhs; rw [h1]
    rw [List.eraseIdx_eq_take_drop_succ]; exact List.perm_middle
  have p5 : ((l.set a y).eraseIdx b).Perm (l.eraseIdx a) := List.Perm.cons_inv (p2.symm.trans p3)
  exact p1.trans ((List.Perm.cons x p5).trans p4.symm)
theorem swap_get {l : List Item} {a b : Nat} {x y : Item} (ha : l[a]? = some x) (hb : l[b]? = some y) (hab : a < b) (j : Nat) : ((l.set a y).set b x)[j]? = if j = b then some x else if j = a then some y else l[j]? := by
  have hal := (List.getElem?_eq_some_iff.1 ha).1
  have hbl := (List.getElem?_eq_some_iff.1 hb).1
  by_cases h1 : j = b
  · subst h1; rw [if_pos rfl, List.getElem?_set_self (by simpa using hbl)]
  · rw [if_neg h1, List.getElem?_set_ne (by omega)]
    by_cases h2 : j = a
    · subst h2; rw [if_pos rfl, List.getElem?_set_self hal]
    · rw [if_neg h2, List.getElem?_set_ne (by omega)]
theorem least_swap {l : List Item} {a b : Nat} {x y : Item} (ha : l[a]? = some x) (hb : l[b]? = some y) (hab : a < b) (hlt : kI y < kI x) (hs : Sorted a l) (hl : Least a b l) : Sorted a ((l.set a y).set b x) ∧ Least a (b + 1) ((l.set a y).set b x) := by
  have g := swap_get ha hb hab
  constructor
  · intro i j u v hi hij hu hv
    rw [g] at hu hv
    rw [if_neg (by omega), if_neg (by omega)] at hu
    split at hv
    · cases hv; exact hs i a u x hi hi hu ha
    · split at hv
      · cases hv; exact hs i b u y hi (by omega) hu hb
      · exact hs i j u v hi hij hu hv
  · intro j u v hj hjb hu hv
    rw [g] at hu hv
    rw [if_neg (by omega), if_pos rfl] at hu
    cases hu
    split at hv
    · cases hv; omega
    · rw [if_neg (by omega)] at hv
      have := hl j x v hj (by omega) ha hv
      omega
theorem least_stay {l : List Item} {a b : Nat} {x y : Item} (ha : l[a]? = some x) (hb : l[b]? = some y) (hge : ¬ kI y < kI x) (hl : Least a b l) : Least a (b + 1) l := by
  intro j u v hj hjb hu hv
  rcases Nat.lt_or_ge j b with h | h
  · exact hl j u v hj h hu hv
  · have : j = b := by omega
    subst this
    rw [ha] at hu; rw [hb] at hv
    cases hu; cases hv; omega
theorem sorted_next {l : List Item} {a : Nat} (hs : Sorted a l) (hl : Least a l.length l) : Sorted (a + 1) l := by
  intro i j x y hi hij hx hy
  rcases Nat.lt_or_ge i a with h | h
  · exact hs i j x y h hij hx hy
  · have : i = a := by omega
    subst this
    exact hl j x y hij (List.getElem?_eq_some_iff.1 hy).1 hx hy
theorem sorted_is {l w : List Item} (hr : Rising kI l) (hp : w.Perm l) (hs : Sorted w.length w) : w = l := by
  have hn : w.Pairwise (fun a b => kI a ≠ kI b) := (hp.pairwise_iff (fun h => Ne.symm h)).2 (hr.imp fun h => by omega)
  have hw : w.Pairwise (fun a b => kI a < kI b) := by
    rw [List.pairwise_iff_getElem] at hn ⊢
    intro i j hi hj hij
    have h1 := hs i j _ _ hi hij (List.getElem?_eq_getElem hi) (List.getElem?_eq_getElem hj)
    have h2 := hn i j hi hj hij
    omega
  exact hp.eq_of_pairwise (fun a b _ _ h1 h2 => by omega) hw hr
def L193a (l : List Item) (a : Nat) : St := ⟨[(4, pint .i64 a), (3, .own 12 0 8 0 l.length)], [(12, .arr 70 8 0 none (itemsD l))], 32⟩
def L193b (l : List Item) (a b : Nat) : St := ⟨[(5, pint .i64 b), (4, pint .i64 a), (3, .own 12 0 8 0 l.length)], [(12, .arr 70 8 0 none (itemsD l))], 60⟩
set_option maxHeartbeats 32000000 in
theorem run193 (me : Int) (l w : List Item) (h : RelI me l w) (hl : w.length ≤ 100000) : Runs Try.prog 193 [.d (.slc 8 (itemsD w))] [] (.d (.slc 8 (itemsD l))) [] := by
  have hlen := items_len w
  have hone := items_one w
  have hfine : ∀ {u : List Item}, u.Perm w → ∀ x ∈ u, Fine x := fun hp x hx => h.gd.fine x (h.pm.mem_iff.1 (hp.mem_iff.1 hx))
  refine Runs.of (kit Try.prog) Try.func193 rfl rfl (by rw [Try.ntmps193]; exact of_decide_eq_true rfl) ?_; rw [Try.ntmps193, Try.results193]
  repeat' (first|((first|refine goA rfl fun K hK=>?_|refine goB rfl fun K hK=>?_|refine goC rfl rfl fun K hK=>?_|refine goD rfl rfl fun K hK=>?_);simp (dsimp:=false) only [↓gq,↓stepP,↓stepG,go_sem,hlen])|refine Pwp.seq ?_|refine Pwp.block ?_|(refine Pwp.exit ?_;simp only [thenS,blockS,if_true,if_false,reduceIte,Nat.reduceEqDiff,Nat.add_one_ne_zero,reduceCtorEq])|(refine Pwp.skip ?_;simp only [thenS,blockS])|(refine Pwp.cond rfl True.intro (fun h=>?_) (fun h=>?_)<;>(try (cases h;done))<;>(try simp only [h]))|refine Pwp.ret ?_|(refine hK _ ?_;clear hK K)|(refine hK _ _ rfl ?_;clear hK K)|refine CallG.off ?_|with_reducible refine Or.inl ?_|simp only [thenS,blockS]|with_reducible refine And.intro ?_ ?_|with_reducible exact True.intro|simp (dsimp:=false) only [↓gq,↓stepP,↓stepG,go_sem,hlen])
  all_goals (try (first|(intro hg;simp [hg];done)|exact of_decide_eq_true rfl|(cases h;done)))
  all_goals (try (first | exact hone | omega | (simp [maxLen]; omega)))
  refine Pwp.rangeI w.length (fun a s => ∃ u, u.Perm w ∧ Sorted a u ∧ s = L193a u a) (s0 := L193a w 0) (Sub.view (VR 12 1) (by simp [L193a]) rfl (by simp [L193a,hlen]) (by simp [L193a,hlen])) ⟨w, List.Perm.refl w, fun i j x y hi => absurd hi (by omega), rfl⟩ ?_ ?_
  · rintro a s ha ⟨u, hp, hs, rfl⟩
    have hul := hp.length_eq
    have hlu := items_len u
    have c1 : decide ((a : Int) < (u.length : Int)) = true := dlt (by omega)
    have w1 := wrap_succ (i := a) (by omega)
    unfold L193a
    repeat' (first|((first|refine goA rfl fun K hK=>?_|refine goB rfl fun K hK=>?_|refine goC rfl rfl fun K hK=>?_|refine goD rfl rfl fun K hK=>?_);simp (dsimp:=false) only [↓gq,↓stepP,↓stepG,go_sem,c1,w1,hlu])|refine Pwp.seq ?_|refine Pwp.block ?_|(refine Pwp.exit ?_;simp only [thenS,blockS,if_true,if_false,reduceIte,Nat.reduceEqDiff,Nat.add_one_ne_zero,reduceCtorEq])|(refine Pwp.skip ?_;simp only [thenS,blockS])|(refine Pwp.cond rfl True.intro (fun h=>?_) (fun h=>?_)<;>(try (cases h;done))<;>(try simp only [h]))|refine Pwp.ret ?_|(refine hK _ ?_;clear hK K)|(refine hK _ _ rfl ?_;clear hK K)|refine CallG.off ?_|with_reducible refine Or.inl ?_|simp only [thenS,blockS]|with_reducible refine And.intro ?_ ?_|with_reducible exact True.intro|simp (dsimp:=false) only [↓gq,↓stepP,↓stepG,go_sem,c1,w1,hlu])
    all_goals (try (first|(intro hg;simp [hg];done)|exact of_decide_eq_true rfl|(cases h;done)))
    refine Pwp.rangeI (w.length - (a + 1)) (fun k s => ∃ u, u.Perm w ∧ Sorted a u ∧ Least a (a + 1 + k) u ∧ s = L193b u a (a + 1 + k)) (s0 := L193b u a (a + 1)) (Sub.view V0 (by simp [L193b]) rfl (by simp [L193b]) (by simp [L193b])) ⟨u, hp, hs, fun j x y h1 h2 => absurd h2 (by omega), rfl⟩ ?_ ?_
    · rintro k s hk ⟨u, hp, hs, hls, rfl⟩
      have hul := hp.length_eq
      have hlu := items_len u
      have hb : a + 1 + k < u.length := by omega
      have hab : a < a + 1 + k := by omega
      rw [show a + 1 + (k + 1) = a + 1 + k + 1 by omega]
      generalize a + 1 + k = b at *
      obtain ⟨x, hx, hmx⟩ := at_lt (l := u) (i := a) (by omega)
      obtain ⟨y, hy, hmy⟩ := at_lt (l := u) (i := b) hb
      have hgx := items_at hx
      have hgy := items_at hy
      have c2 : decide ((b : Int) < (u.length : Int)) = true := dlt hb
      have w2 := wrap_succ (i := b) (by omega)
      have r234 := run234 y.seller y.number x.seller x.number
      rw [ahead_key (hfine hp y hmy) (hfine hp x hmx)] at r234
      by_cases hq : kI y < kI x
      · rw [decide_eq_true hq] at r234
        have g3 : ((itemsD u).set a (D.agg [I64 y.seller, I64 y.number, I64 y.buyer, I64 y.currency, I64 y.amount, I64 y.round, I64 y.state, I64 y.cycle]))[b]? = some (D.agg [I64 y.seller, I64 y.number, I64 y.buyer, I64 y.currency, I64 y.amount, I64 y.round, I64 y.state, I64 y.cycle]) := by
          rw [List.getElem?_set_ne (by omega)]; exact hgy
        have e3 : ((itemsD u).set a (D.agg [I64 y.seller, I64 y.number, I64 y.buyer, I64 y.currency, I64 y.amount, I64 y.round, I64 y.state, I64 y.cycle])).set b (D.agg [I64 x.seller, I64 x.number, I64 x.buyer, I64 x.currency, I64 x.amount, I64 x.round, I64 x.state, I64 x.cycle]) = itemsD ((u.set a y).set b x) := by
          simp [itemsD, List.map_set, Item.cells]
        have e4 : ((u.set a y).set b x).length = u.length := by simp
        obtain ⟨s1, s2⟩ := least_swap hx hy hab hq hs hls
        have hp2 := (swap_perm hx hy hab).trans hp
        have p1 : a < u.length := by omega
        unfold L193b
        repeat' (first|((first|refine goA rfl fun K hK=>?_|refine goB rfl fun K hK=>?_|refine goC rfl rfl fun K hK=>?_|refine goD rfl rfl fun K hK=>?_);simp (dsimp:=false) only [↓gq,↓stepP,↓stepG,go_sem,hgx,hgy,g3,c2,w2,hlu,hb,p1])|refine Pwp.seq ?_|refine Pwp.block ?_|(refine Pwp.exit ?_;simp only [thenS,blockS,if_true,if_false,reduceIte,Nat.reduceEqDiff,Nat.add_one_ne_zero,reduceCtorEq])|(refine Pwp.skip ?_;simp only [thenS,blockS])|(refine Pwp.cond rfl True.intro (fun h=>?_) (fun h=>?_)<;>(try (cases h;done))<;>(try simp only [h]))|refine Pwp.ret ?_|(refine hK _ ?_;clear hK K)|(refine hK _ _ rfl ?_;clear hK K)|(refine CallK.toD (ds:=[.agg [I64 y.seller, I64 y.number], .agg [I64 x.seller, I64 x.number]]) rfl (r234) rfl ?_)|refine CallG.off ?_|with_reducible refine Or.inl ?_|simp only [thenS,blockS]|with_reducible refine And.intro ?_ ?_|with_reducible exact True.intro|simp (dsimp:=false) only [↓gq,↓stepP,↓stepG,go_sem,hgx,hgy,g3,c2,w2,hlu,hb,p1])
        all_goals (try (first|(intro hg;simp [hg];done)|exact of_decide_eq_true rfl|(cases h;done)))
        exact ⟨_, Sub.view V0 (by simp [L193b]) rfl (by simp [L193b,e3,e4]) (by simp [L193b,e3,e4]), (u.set a y).set b x, hp2, s1, s2, rfl⟩
      · rw [decide_eq_false hq] at r234
        have p1 : a < u.length := by omega
        unfold L193b
        repeat' (first|((first|refine goA rfl fun K hK=>?_|refine goB rfl fun K hK=>?_|refine goC rfl rfl fun K hK=>?_|refine goD rfl rfl fun K hK=>?_);simp (dsimp:=false) only [↓gq,↓stepP,↓stepG,go_sem,hgx,hgy,c2,w2,hlu,hb,p1])|refine Pwp.seq ?_|refine Pwp.block ?_|(refine Pwp.exit ?_;simp only [thenS,blockS,if_true,if_false,reduceIte,Nat.reduceEqDiff,Nat.add_one_ne_zero,reduceCtorEq])|(refine Pwp.skip ?_;simp only [thenS,blockS])|(refine Pwp.cond rfl True.intro (fun h=>?_) (fun h=>?_)<;>(try (cases h;done))<;>(try simp only [h]))|refine Pwp.ret ?_|(refine hK _ ?_;clear hK K)|(refine hK _ _ rfl ?_;clear hK K)|(refine CallK.toD (ds:=[.agg [I64 y.seller, I64 y.number], .agg [I64 x.seller, I64 x.number]]) rfl (r234) rfl ?_)|refine CallG.off ?_|with_reducible refine Or.inl ?_|simp only [thenS,blockS]|with_reducible refine And.intro ?_ ?_|with_reducible exact True.intro|simp (dsimp:=false) only [↓gq,↓stepP,↓stepG,go_sem,hgx,hgy,c2,w2,hlu,hb,p1])
        all_goals (try (first|(intro hg;simp [hg];done)|exact of_decide_eq_true rfl|(cases h;done)))
        exact ⟨_, Sub.view V0 (by simp [L193b]) rfl (by simp [L193b]) (by simp [L193b]), u, hp, hs, least_stay hx hy hq hls, rfl⟩
    · rintro s ⟨u, hp, hs, hls, rfl⟩
      have hul := hp.length_eq
      have hlu := items_len u
      rw [show a + 1 + (w.length - (a + 1)) = u.length by omega] at hls ⊢
      have c2 := dge (Nat.le_refl u.length)
      unfold L193b
      repeat' (first|((first|refine goA rfl fun K hK=>?_|refine goB rfl fun K hK=>?_|refine goC rfl rfl fun K hK=>?_|refine goD rfl rfl fun K hK=>?_);simp (dsimp:=false) only [↓gq,↓stepP,↓stepG,go_sem,c2,w1,hlu])|refine Pwp.seq ?_|refine Pwp.block ?_|(refine Pwp.exit ?_;simp only [thenS,blockS,if_true,if_false,reduceIte,Nat.reduceEqDiff,Nat.add_one_ne_zero,reduceCtorEq])|(refine Pwp.skip ?_;simp only [thenS,blockS])|(refine Pwp.cond rfl True.intro (fun h=>?_) (fun h=>?_)<;>(try (cases h;done))<;>(try simp only [h]))|refine Pwp.ret ?_|(refine hK _ ?_;clear hK K)|(refine hK _ _ rfl ?_;clear hK K)|refine CallG.off ?_|with_reducible refine Or.inl ?_|simp only [thenS,blockS]|with_reducible refine And.intro ?_ ?_|with_reducible exact True.intro|simp (dsimp:=false) only [↓gq,↓stepP,↓stepG,go_sem,c2,w1,hlu])
      all_goals (try (first|(intro hg;simp [hg];done)|exact of_decide_eq_true rfl|(cases h;done)))
      exact ⟨_, Sub.view V0 (by simp [L193a]) rfl (by simp [L193a]) (by simp [L193a]), u, hp, sorted_next hs hls, rfl⟩
  · rintro s ⟨u, hp, hs, rfl⟩
    have hul := hp.length_eq
    have hlu := items_len u
    have e := sorted_is h.gd.rise (hp.trans h.pm) (by rw [hul]; exact hs)
    subst e
    rw [← hul]
    have c1 := dge (Nat.le_refl u.length)
    have htk : (itemsD u).take u.length = itemsD u := List.take_of_length_le (by omega)
    unfold L193a
    repeat' (first|((first|refine goA rfl fun K hK=>?_|refine goB rfl fun K hK=>?_|refine goC rfl rfl fun K hK=>?_|refine goD rfl rfl fun K hK=>?_);simp (dsimp:=false) only [↓gq,↓stepP,↓stepG,go_sem,c1,hlu,htk])|refine Pwp.seq ?_|refine Pwp.block ?_|(refine Pwp.exit ?_;simp only [thenS,blockS,if_true,if_false,reduceIte,Nat.reduceEqDiff,Nat.add_one_ne_zero,reduceCtorEq])|(refine Pwp.skip ?_;simp only [thenS,blockS])|(refine Pwp.cond rfl True.intro (fun h=>?_) (fun h=>?_)<;>(try (cases h;done))<;>(try simp only [h]))|refine Pwp.ret ?_|(refine hK _ ?_;clear hK K)|(refine hK _ _ rfl ?_;clear hK K)|refine CallG.off ?_|with_reducible refine Or.inl ?_|simp only [thenS,blockS]|with_reducible refine And.intro ?_ ?_|with_reducible exact True.intro|simp (dsimp:=false) only [↓gq,↓stepP,↓stepG,go_sem,c1,hlu,htk])
    all_goals (try (first|(intro hg;simp [hg];done)|exact of_decide_eq_true rfl|(cases h;done)))
    (refine Fin.data (.inr rfl) (by simp (dsimp:=false) only [↓gq,↓stepP,↓stepG,go_sem,resL,htk,hlu]; rfl) (by simp only [and_self]) (by simp (dsimp:=false) only [↓gq,↓stepP,↓stepG,go_sem,resP,Nat.le_refl,List.take_length,htk,hlu]; try rfl) ?_)
    exact subD_refl _
end Go.Proofs.Ytdodgbhodkcckaa.Pv
end
section
set_option linter.unusedVariables false
set_option linter.unusedSimpArgs false
set_option autoImplicit false
set_option maxRecDepth 100000
namespace Go.Proofs.Ytdodgbhodkcckaa.Pv
open Go Go.RowKit
structure ROutV where
  e : Int
  q : VP
  w : List Item
  o : Option D
def rvD (r : ROutV) : D := .tup [r.q.dN, (rdD r.w).d, .slc 12 r.o.toList, I64 r.e]
def selS (c : Int) (l : List Item) (i : Nat) : List Item := (keepF (notFree c) (l.take i)).take 128
def isFreeB (c : Int) (x : Item) : Bool := (x.state == 3 && x.currency == c) && x.cycle == 0
theorem free_not (c : Int) (x : Item) : notFree c x = !isFreeB c x := by unfold notFree isFreeB; cases (x.state == 3 && x.currency == c) <;> simp [bne]
theorem selS_len (c : Int) (l : List Item) (i : Nat) : (selS c l i).length ≤ 128 := by unfold selS; rw [List.length_take]; omega
theorem selS_take {c : Int} {l : List Item} {i : Nat} {x : Item} (h : l[i]? = some x) : selS c l (i + 1) = if (isFreeB c x && decide (((selS c l i).length : Int) < 128)) = true then selS c l i ++ [x] else selS c l i := by
  have e := keepF_take (pr := notFree c) h
  unfold selS
  rw [e, free_not]
  generalize keepF (notFree c) (l.take i) = K
  cases isFreeB c x with
  | false => simp
  | true =>
    simp only [Bool.not_true, Bool.false_eq_true, if_false, Bool.true_and, decide_eq_true_eq, List.length_take]
    rcases Nat.lt_or_ge K.length 128 with hk | hk
    · rw [if_pos (by omega), List.take_of_length_le (by simp; omega), List.take_of_length_le (by omega)]
    · rw [if_neg (by omega), List.take_append_of_le_length (by omega)]
theorem selS_all (c : Int) (l : List Item) : selS c l l.length = askL c l := by unfold selS askL; rw [List.take_length]
def keepAll (n : Int) (ys w : List Item) : List Item := ys.foldl (fun b x => keepL2 b (withC n x)) w
theorem keepAll_snoc (n : Int) (ys w : List Item) (x : Item) : keepAll n (ys ++ [x]) w = keepL2 (keepAll n ys w) (withC n x) := by unfold keepAll; rw [List.foldl_append]; rfl
theorem keepAll_len (n : Int) : ∀ (ys w : List Item), (keepAll n ys w).length ≤ w.length + ys.length
  | [], w => by simp [keepAll]
  | x :: ys, w => by
    have h1 := keepAll_len n ys (keepL2 w (withC n x))
    have h2 := keep_len w (withC n x)
    unfold keepAll at h1 ⊢
    simp only [List.foldl_cons, List.length_cons]; omega
def askBadR (m : Msg) : Bool := decide (m.cycle < 1) || decide (1048576 < m.cycle) || decide (m.currency < 0) || decide (7 < m.currency)
theorem askBadR_is (m : Msg) : askBadR m = askBad m := by unfold askBadR askBad; congr 1
def askRR (q : VP) (l w : List Item) (m : Msg) : ROutV :=
  if askBadR m = true then ⟨1, q, w, none⟩ else if decide (0 ≤ fndC m.cycle 0 q.list) = true then ⟨5, q, w, none⟩
  else ⟨0, { q with list := withL q.list ⟨m.cycle, m.currency, 1, []⟩ }, keepAll m.cycle (askL m.currency l) w, some (saidD q.n (offerM m.cycle ((askL m.currency l).map lineOf)))⟩
def L126 (q : VP) (l w : List Item) (m : Msg) (i : Nat) : St :=
  ⟨[(12, pint .i64 i), (11, .d (.slc 8 (itemsD l))), (10, .own 60 0 4 0 (selS m.currency l i).length), (7, .ref 12 0), (6, .ref 11 0), (5, .ref 10 0), (4, .ref 9 0), (3, .ref 8 0)],
   [(8, .box [.d (I64 q.me), .d (I64 q.n), .d (.slc 4 (partsN q.list))]), (9, .box [.d (I64 0), .d (I64 0), .d (.slc 8 (itemsD (keepAll m.cycle (selS m.currency l i) w))), .d (.slc 3 (ordersD []))]),
    (10, .box [.d (I64 m.kind), .d (I64 m.seller), .d (I64 m.number), .d (I64 m.buyer), .d (I64 m.currency), .d (I64 m.round), .d (I64 m.cycle), .d (I64 m.amount), .d (.v (.bool m.yes)), .d m.lines, .d m.nets]),
    (11, .box [.d (I64 0), .d (I64 0), .d nilD]), (12, .box [.d (I64 0), .d (I64 0), .d nilD, .d nilD]), (60, .arr 142 4 0 none (linesD ((selS m.currency l i).map lineOf)))], 152⟩
set_option maxHeartbeats 64000000 in
theorem run126 (q : VP) (me : Int) (l w : List Item) (m : Msg) (hR : RelI me l w) (hw : w.length ≤ 10000) (hq : q.list.length ≤ 10000) :
    Runs Try.prog 126 [.d q.dN, .d (rdD w).d, .d m.d] [] (.d (rvD (askRR q l w m))) [] := by
  have r127 := run127 q m.cycle (by omega)
  have r193 := run193 me l w hR (by omega)
  have hll := hR.pm.length_eq
  have hlen := items_len l
  unfold rvD askRR
  cases hb : askBadR m with
  | true =>
    rw [if_pos rfl]
    unfold askBadR at hb
    unfold VP.dN rdD RDesk.d RDesk.cells Msg.d Msg.cells
    refine Runs.of (kit Try.prog) Try.func126 rfl rfl (by rw [Try.ntmps126]; exact of_decide_eq_true rfl) ?_; rw [Try.ntmps126, Try.results126]
    repeat' (first|((first|refine goA rfl fun K hK=>?_|refine goB rfl fun K hK=>?_|refine goC rfl rfl fun K hK=>?_|refine goD rfl rfl fun K hK=>?_);simp (dsimp:=false) only [↓gq,↓stepP,↓stepG,go_sem,hb])|refine Pwp.seq ?_|refine Pwp.block ?_|(refine Pwp.exit ?_;simp only [thenS,blockS,if_true,if_false,reduceIte,Nat.reduceEqDiff,Nat.add_one_ne_zero,reduceCtorEq])|(refine Pwp.skip ?_;simp only [thenS,blockS])|(refine Pwp.cond rfl True.intro (fun h=>?_) (fun h=>?_)<;>(try (cases h;done))<;>(try simp only [h]))|refine Pwp.ret ?_|(refine hK _ ?_;clear hK K)|(refine hK _ _ rfl ?_;clear hK K)|refine CallG.off ?_|with_reducible refine Or.inl ?_|simp only [thenS,blockS]|with_reducible refine And.intro ?_ ?_|with_reducible exact True.intro|simp (dsimp:=false) only [↓gq,↓stepP,↓stepG,go_sem,hb])
    all_goals (try (first|(intro hg;simp [hg];done)|exact of_decide_eq_true rfl|(cases h;done)))
    (refine Fin.data (.inr rfl) (by simp (dsimp:=false) only [↓gq,↓stepP,↓stepG,go_sem,resL]; rfl) (by simp only [and_self]) (by simp (dsimp:=false) only [↓gq,↓stepP,↓stepG,go_sem,resP,Nat.le_refl,List.take_length]; try rfl) ?_)
    simp [subD, subL, subV, subD_refl]
  | false =>
    unfold askBadR at hb
    rw [if_neg (by simp)]
    cases hin : decide (0 ≤ fndC m.cycle 0 q.list) with
    | true =>
      rw [if_pos rfl]
      generalize fndC m.cycle 0 q.list = z at *
      unfold VP.dN rdD RDesk.d RDesk.cells Msg.d Msg.cells at *
      refine Runs.of (kit Try.prog) Try.func126 rfl rfl (by rw [Try.ntmps126]; exact of_decide_eq_true rfl) ?_; rw [Try.ntmps126, Try.results126]
      repeat' (first|((first|refine goA rfl fun K hK=>?_|refine goB rfl fun K hK=>?_|refine goC rfl rfl fun K hK=>?_|refine goD rfl rfl fun K hK=>?_);simp (dsimp:=false) only [↓gq,↓stepP,↓stepG,go_sem,hb,hin])|refine Pwp.seq ?_|refine Pwp.block ?_|(refine Pwp.exit ?_;simp only [thenS,blockS,if_true,if_false,reduceIte,Nat.reduceEqDiff,Nat.add_one_ne_zero,reduceCtorEq])|(refine Pwp.skip ?_;simp only [thenS,blockS])|(refine Pwp.cond rfl True.intro (fun h=>?_) (fun h=>?_)<;>(try (cases h;done))<;>(try simp only [h]))|refine Pwp.ret ?_|(refine hK _ ?_;clear hK K)|(refine hK _ _ rfl ?_;clear hK K)|(refine CallK.toD (ds:=[.agg [I64 q.me, I64 q.n, .slc 4 (partsN q.list)], I64 m.cycle]) rfl (r127) rfl ?_)|refine CallG.off ?_|with_reducible refine Or.inl ?_|simp only [thenS,blockS]|with_reducible refine And.intro ?_ ?_|with_reducible exact True.intro|simp (dsimp:=false) only [↓gq,↓stepP,↓stepG,go_sem,hb,hin])
      all_goals (try (first|(intro hg;simp [hg];done)|exact of_decide_eq_true rfl|(cases h;done)))
      (refine Fin.data (.inr rfl) (by simp (dsimp:=false) only [↓gq,↓stepP,↓stepG,go_sem,resL]; rfl) (by simp only [and_self]) (by simp (dsimp:=false) only [↓gq,↓stepP,↓stepG,go_sem,resP,Nat.le_refl,List.take_length]; try rfl) ?_)
      simp [subD, subL, subV, subD_refl]
    | false =>
      rw [if_neg (by simp)]
      have r129 := run129 q ⟨m.cycle, m.currency, 1, []⟩ (by omega)
      generalize fndC m.cycle 0 q.list = z at *
      unfold Part.cellsN linesN at r129
      unfold VP.dN rdD RDesk.d RDesk.cells Msg.d Msg.cells at *
      unfold offerM saidD Msg.cells at *
      refine Runs.of (kit Try.prog) Try.func126 rfl rfl (by rw [Try.ntmps126]; exact of_decide_eq_true rfl) ?_; rw [Try.ntmps126, Try.results126]
      repeat' (first|((first|refine goA rfl fun K hK=>?_|refine goB rfl fun K hK=>?_|refine goC rfl rfl fun K hK=>?_|refine goD rfl rfl fun K hK=>?_);simp (dsimp:=false) only [↓gq,↓stepP,↓stepG,go_sem,hb,hin,hlen])|refine Pwp.seq ?_|refine Pwp.block ?_|(refine Pwp.exit ?_;simp only [thenS,blockS,if_true,if_false,reduceIte,Nat.reduceEqDiff,Nat.add_one_ne_zero,reduceCtorEq])|(refine Pwp.skip ?_;simp only [thenS,blockS])|(refine Pwp.cond rfl True.intro (fun h=>?_) (fun h=>?_)<;>(try (cases h;done))<;>(try simp only [h]))|refine Pwp.ret ?_|(refine hK _ ?_;clear hK K)|(refine hK _ _ rfl ?_;clear hK K)|(refine CallK.toD (ds:=[.agg [I64 q.me, I64 q.n, .slc 4 (partsN q.list)], I64 m.cycle]) rfl (r127) rfl ?_)|(refine CallK.give (ds:=[.slc 8 (itemsD w)]) rfl (r193) (by simp) ?_)|refine CallG.off ?_|with_reducible refine Or.inl ?_|simp only [thenS,blockS]|with_reducible refine And.intro ?_ ?_|with_reducible exact True.intro|simp (dsimp:=false) only [↓gq,↓stepP,↓stepG,go_sem,hb,hin,hlen])
      all_goals (try (first|(intro hg;simp [hg];done)|exact of_decide_eq_true rfl|(cases h;done)))
      refine Pwp.range l.length (S := L126 q l w m) (Sub.view (VN 60) (by simp [L126]) rfl (by simp [L126,selS,keepF,keepAll,linesD,hlen]) (by simp [L126,selS,keepF,keepAll,linesD,hlen])) (fun i hi => ?_) ?_
      · obtain ⟨x, hx, hm⟩ := at_lt hi
        have hg := items_at hx
        have c1 := dlt hi
        have w1 := wrap_succ (i := i) (by omega)
        have hst := selS_take (c := m.currency) hx
        have hsl := selS_len m.currency l i
        have hkl := keepAll_len m.cycle (selS m.currency l i) w
        have hln : (linesD ((selS m.currency l i).map lineOf)).length = (selS m.currency l i).length := by simp [linesD]
        have htk : (linesD ((selS m.currency l i).map lineOf)).take (selS m.currency l i).length = linesD ((selS m.currency l i).map lineOf) := List.take_of_length_le (by omega)
        cases hq : (isFreeB m.currency x && decide (((selS m.currency l i).length : Int) < 128)) with
        | true =>
          rw [if_pos hq] at hst
          have r194 := run194 x
          have r121 := run121 (rdD (keepAll m.cycle (selS m.currency l i) w)) (withC m.cycle x) (by simp only [rdD]; omega)
          unfold RDesk.keep at r121
          have hks := keepAll_snoc m.cycle (selS m.currency l i) w x
          rw [← hst] at hks
          have hls : linesD ((selS m.currency l (i + 1)).map lineOf) = linesD ((selS m.currency l i).map lineOf) ++ [.agg [I64 x.seller, I64 x.number, I64 x.buyer, I64 x.amount]] := by rw [hst]; simp [linesD, lineOf, Line.d, Line.cells]
          have hl1 : (selS m.currency l (i + 1)).length = (selS m.currency l i).length + 1 := by rw [hst]; simp
          unfold isFreeB at hq
          unfold Item.d Item.cells lineOf Line.d Line.cells at r194
          unfold rdD RDesk.d RDesk.cells Item.d Item.cells at r121
          simp only [← hks] at r121
          simp only [withC] at r121
          unfold L126
          repeat' (first|((first|refine goA rfl fun K hK=>?_|refine goB rfl fun K hK=>?_|refine goC rfl rfl fun K hK=>?_|refine goD rfl rfl fun K hK=>?_);simp (dsimp:=false) only [↓gq,↓stepP,↓stepG,go_sem,hg,c1,w1,hq,hln,htk,hlen])|refine Pwp.seq ?_|refine Pwp.block ?_|(refine Pwp.exit ?_;simp only [thenS,blockS,if_true,if_false,reduceIte,Nat.reduceEqDiff,Nat.add_one_ne_zero,reduceCtorEq])|(refine Pwp.skip ?_;simp only [thenS,blockS])|(refine Pwp.cond rfl True.intro (fun h=>?_) (fun h=>?_)<;>(try (cases h;done))<;>(try simp only [h]))|refine Pwp.ret ?_|(refine hK _ ?_;clear hK K)|(refine hK _ _ rfl ?_;clear hK K)|(refine CallK.toD (ds:=[.agg [I64 x.seller, I64 x.number, I64 x.buyer, I64 x.currency, I64 x.amount, I64 x.round, I64 x.state, I64 x.cycle]]) rfl (r194) rfl ?_)|(refine CallK.give (ds:=[.agg [I64 0, I64 0, .slc 8 (itemsD (keepAll m.cycle (selS m.currency l i) w)), .slc 3 (ordersD [])], .agg [I64 x.seller, I64 x.number, I64 x.buyer, I64 x.currency, I64 x.amount, I64 x.round, I64 x.state, I64 m.cycle]]) rfl (r121) (by simp) ?_)|refine CallG.off ?_|with_reducible refine Or.inl ?_|simp only [thenS,blockS]|with_reducible refine And.intro ?_ ?_|with_reducible exact True.intro|simp (dsimp:=false) only [↓gq,↓stepP,↓stepG,go_sem,hg,c1,w1,hq,hln,htk,hlen])
          all_goals (try (first|(intro hg;simp [hg];done)|exact of_decide_eq_true rfl|(cases h;done)))
          all_goals (try (first | omega | (simp [maxLen]; omega) | (simp [hln]; done)))
          exact Sub.view (VR 60 1) (by simp [L126]) rfl (by simp [L126,hls,hl1]) (by simp [L126,hls,hl1])
        | false =>
          rw [if_neg (by rw [hq]; simp)] at hst
          unfold isFreeB at hq
          unfold L126
          repeat' (first|((first|refine goA rfl fun K hK=>?_|refine goB rfl fun K hK=>?_|refine goC rfl rfl fun K hK=>?_|refine goD rfl rfl fun K hK=>?_);simp (dsimp:=false) only [↓gq,↓stepP,↓stepG,go_sem,hg,c1,w1,hq,hln,htk,hlen])|refine Pwp.seq ?_|refine Pwp.block ?_|(refine Pwp.exit ?_;simp only [thenS,blockS,if_true,if_false,reduceIte,Nat.reduceEqDiff,Nat.add_one_ne_zero,reduceCtorEq])|(refine Pwp.skip ?_;simp only [thenS,blockS])|(refine Pwp.cond rfl True.intro (fun h=>?_) (fun h=>?_)<;>(try (cases h;done))<;>(try simp only [h]))|refine Pwp.ret ?_|(refine hK _ ?_;clear hK K)|(refine hK _ _ rfl ?_;clear hK K)|refine CallG.off ?_|with_reducible refine Or.inl ?_|simp only [thenS,blockS]|with_reducible refine And.intro ?_ ?_|with_reducible exact True.intro|simp (dsimp:=false) only [↓gq,↓stepP,↓stepG,go_sem,hg,c1,w1,hq,hln,htk,hlen])
          all_goals (try (first|(intro hg;simp [hg];done)|exact of_decide_eq_true rfl|(cases h;done)))
          all_goals (try (intro hg; simp only [hg, Bool.not_false, Bool.not_true, Bool.and_self, Bool.true_and, Bool.and_true, true_and, and_self, imp_self, implies_true]; done))
          exact Sub.view V0 (by simp [L126]) rfl (by simp [L126,hst]) (by simp [L126,hst])
      · have c1 := dge (Nat.le_refl l.length)
        have hsa := selS_all m.currency l
        have hln : (linesD ((askL m.currency l).map lineOf)).length = (askL m.currency l).length := by simp [linesD]
        have htk : (linesD ((askL m.currency l).map lineOf)).take (askL m.currency l).length = linesD ((askL m.currency l).map lineOf) := List.take_of_length_le (by omega)
        unfold L126
        rw [hsa]
        repeat' (first|((first|refine goA rfl fun K hK=>?_|refine goB rfl fun K hK=>?_|refine goC rfl rfl fun K hK=>?_|refine goD rfl rfl fun K hK=>?_);simp (dsimp:=false) only [↓gq,↓stepP,↓stepG,go_sem,c1,htk,hln,hlen,Nat.le_refl])|refine Pwp.seq ?_|refine Pwp.block ?_|(refine Pwp.exit ?_;simp only [thenS,blockS,if_true,if_false,reduceIte,Nat.reduceEqDiff,Nat.add_one_ne_zero,reduceCtorEq])|(refine Pwp.skip ?_;simp only [thenS,blockS])|(refine Pwp.cond rfl True.intro (fun h=>?_) (fun h=>?_)<;>(try (cases h;done))<;>(try simp only [h]))|refine Pwp.ret ?_|(refine hK _ ?_;clear hK K)|(refine hK _ _ rfl ?_;clear hK K)|(refine CallK.give (ds:=[.agg [I64 q.me, I64 q.n, .slc 4 (partsN q.list)], .agg [I64 m.cycle, I64 m.currency, I64 1, nilD]]) rfl (r129) (by simp) ?_)|refine CallG.off ?_|with_reducible refine Or.inl ?_|simp only [thenS,blockS]|with_reducible refine And.intro ?_ ?_|with_reducible exact True.intro|simp (dsimp:=false) only [↓gq,↓stepP,↓stepG,go_sem,c1,htk,hln,hlen,Nat.le_refl])
        all_goals (try (first|(intro hg;simp [hg];done)|exact of_decide_eq_true rfl|(cases h;done)))
        (refine Fin.data (.inr rfl) (by simp (dsimp:=false) only [↓gq,↓stepP,↓stepG,go_sem,resL]; rfl) (by simp only [and_self]) (by simp (dsimp:=false) only [↓gq,↓stepP,↓stepG,go_sem,resP,Nat.le_refl,List.take_length]; try rfl) ?_)
        simp [subD, subL, subV, subD_refl]
end Go.Proofs.Ytdodgbhodkcckaa.Pv
end
section
set_option linter.unusedVariables false
set_option linter.unusedSimpArgs false
set_option autoImplicit false
namespace Go.Proofs.Ytdodgbhodkcckaa.Dig
def digs (n : Nat) : List Nat := if h : n = 0 then [] else n % 10 :: digs (n / 10)
termination_by n
decreasing_by omega
def val : List Nat → Nat
  | [] => 0
  | d :: ds => d + 10 * val ds
def Small (l : List Nat) : Prop := ∀ d ∈ l, d < 10
def Canon (l : List Nat) : Prop := Small l ∧ l.getLast? ≠ some 0
theorem digs_zero : digs 0 = [] := by rw [digs]; simp
theorem digs_pos {n : Nat} (h : n ≠ 0) : digs n = n % 10 :: digs (n / 10) := by rw [digs]; simp [h]
theorem val_digs : ∀ n, val (digs n) = n := by
  intro n
  induction n using Nat.strongRecOn with
  | _ n ih =>
    rcases Nat.eq_zero_or_pos n with h0 | h0
    · subst h0; rw [digs_zero]; rfl
    · rw [digs_pos (by omega), val, ih (n / 10) (by omega)]; omega
theorem small_digs : ∀ n, Small (digs n) := by
  intro n
  induction n using Nat.strongRecOn with
  | _ n ih =>
    rcases Nat.eq_zero_or_pos n with h0 | h0
    · subst h0; rw [digs_zero]; intro d hd; simp at hd
    · rw [digs_pos (by omega)]
      intro d hd
      rcases List.mem_cons.1 hd with rfl | hd
      · omega
      · exact ih (n / 10) (by omega) d hd
theorem canon_digs : ∀ {l : List Nat}, Canon l → digs (val l) = l
  | [], _ => digs_zero
  | [d], h => by
    have hd := h.1 d (by simp)
    have h0 : d ≠ 0 := fun e => h.2 (by simp [e])
    have e1 : val [d] = d := by simp [val]
    rw [e1, digs_pos h0, Nat.mod_eq_of_lt hd, Nat.div_eq_of_lt hd, digs_zero]
  | d :: e :: l, h => by
    have hd := h.1 d (by simp)
    have ih := canon_digs (l := e :: l) ⟨fun x hx => h.1 x (by simp [hx]), by have := h.2; rwa [List.getLast?_cons_cons] at this⟩
    have hv : val (d :: e :: l) = d + 10 * val (e :: l) := rfl
    have hne : val (e :: l) ≠ 0 := fun hz => by rw [hz, digs_zero] at ih; cases ih
    rw [hv, digs_pos (by omega), show (d + 10 * val (e :: l)) % 10 = d by omega, show (d + 10 * val (e :: l)) / 10 = val (e :: l) by omega, ih]
def tlen (l : List Nat) : Nat → Nat
  | 0 => 0
  | n + 1 => if l[n]? = some 0 then tlen l n else n + 1
theorem val_append : ∀ (l k : List Nat), val (l ++ k) = val l + 10 ^ l.length * val k
  | [], k => by simp [val]
  | d :: l, k => by
    simp only [List.cons_append, val, val_append l k, List.length_cons, Nat.pow_succ]
    rw [Nat.mul_add, Nat.add_assoc, show 10 * (10 ^ l.length * val k) = 10 ^ l.length * 10 * val k by rw [Nat.mul_comm (10 ^ l.length) 10, Nat.mul_assoc]]
theorem tlen_spec (l : List Nat) (hs : Small l) : ∀ n, n ≤ l.length → val (l.take (tlen l n)) = val (l.take n) ∧ Canon (l.take (tlen l n))
  | 0, _ => ⟨rfl, by simp [tlen, Canon, Small]⟩
  | n + 1, hn => by
    simp only [tlen]
    have hlt : n < l.length := by omega
    split
    · rename_i h0
      obtain ⟨h1, h2⟩ := tlen_spec l hs n (by omega)
      refine ⟨?_, h2⟩
      rw [h1]
      have ht : l.take (n + 1) = l.take n ++ [0] := by
        rw [List.take_add_one, h0]; rfl
      rw [ht, val_append]; simp [val]
    · rename_i h0
      refine ⟨rfl, fun d hd => hs d (List.mem_of_mem_take hd), ?_⟩
      have ht : l.take (n + 1) = l.take n ++ [l[n]] := by
        rw [List.take_add_one, List.getElem?_eq_getElem hlt]; rfl
      rw [ht, List.getLast?_concat]
      intro e
      apply h0
      rw [List.getElem?_eq_getElem hlt]; exact e
theorem trim_eq {l : List Nat} (hs : Small l) : l.take (tlen l l.length) = digs (val l) := by
  obtain ⟨h1, h2⟩ := tlen_spec l hs l.length (Nat.le_refl _)
  rw [List.take_length] at h1
  rw [← canon_digs h2, h1]
def addL : List Nat → List Nat → Nat → List Nat
  | [], [], c => if c = 0 then [] else [c]
  | a :: aS, [], c => (a + c) % 10 :: addL aS [] ((a + c) / 10)
  | [], b :: bs, c => (b + c) % 10 :: addL [] bs ((b + c) / 10)
  | a :: aS, b :: bs, c => (a + b + c) % 10 :: addL aS bs ((a + b + c) / 10)
theorem val_addL : ∀ (a b : List Nat) (c : Nat), val (addL a b c) = val a + val b + c
  | [], [], c => by simp only [addL]; split <;> simp_all [val]
  | a :: aS, [], c => by simp only [addL, val, val_addL aS [] ((a + c) / 10)]; omega
  | [], b :: bs, c => by simp only [addL, val, val_addL [] bs ((b + c) / 10)]; omega
  | a :: aS, b :: bs, c => by simp only [addL, val, val_addL aS bs ((a + b + c) / 10)]; omega
theorem small_addL : ∀ {a b : List Nat} {c : Nat}, Small a → Small b → c ≤ 1 → Small (addL a b c)
  | [], [], c, _, _, hc => by
    simp only [addL]; split
    · intro d hd; simp at hd
    · intro d hd; simp at hd; omega
  | a :: aS, [], c, ha, hb, hc => by
    have h1 := ha a (by simp)
    have ih := small_addL (a := aS) (b := []) (c := (a + c) / 10) (fun d hd => ha d (by simp [hd])) hb (by omega)
    intro d hd
    simp only [addL] at hd
    rcases List.mem_cons.1 hd with rfl | hd
    · omega
    · exact ih d hd
  | [], b :: bs, c, ha, hb, hc => by
    have h1 := hb b (by simp)
    have ih := small_addL (a := []) (b := bs) (c := (b + c) / 10) ha (fun d hd => hb d (by simp [hd])) (by omega)
    intro d hd
    simp only [addL] at hd
    rcases List.mem_cons.1 hd with rfl | hd
    · omega
    · exact ih d hd
  | a :: aS, b :: bs, c, ha, hb, hc => by
    have h1 := ha a (by simp)
    have h2 := hb b (by simp)
    have ih := small_addL (a := aS) (b := bs) (c := (a + b + c) / 10) (fun d hd => ha d (by simp [hd])) (fun d hd => hb d (by simp [hd])) (by omega)
    intro d hd
    simp only [addL] at hd
    rcases List.mem_cons.1 hd with rfl | hd
    · omega
    · exact ih d hd
theorem length_addL : ∀ (a b : List Nat) (c : Nat), (addL a b c).length ≤ max a.length b.length + 1
  | [], [], c => by simp only [addL]; split <;> simp
  | a :: aS, [], c => by have := length_addL aS [] ((a + c) / 10); simp only [addL, List.length_cons, List.length_nil] at *; omega
  | [], b :: bs, c => by have := length_addL [] bs ((b + c) / 10); simp only [addL, List.length_cons, List.length_nil] at *; omega
  | a :: aS, b :: bs, c => by have := length_addL aS bs ((a + b + c) / 10); simp only [addL, List.length_cons] at *; omega
def subL : List Nat → List Nat → Nat → List Nat
  | [], _, _ => []
  | a :: aS, bs, c => if a < bs.headD 0 + c then (a + 10 - bs.headD 0 - c) :: subL aS bs.tail 1 else (a - bs.headD 0 - c) :: subL aS bs.tail 0
theorem val_headD (bs : List Nat) : val bs = bs.headD 0 + 10 * val bs.tail := by cases bs <;> simp [val]
theorem small_headD {bs : List Nat} (h : Small bs) : bs.headD 0 < 10 := by
  cases bs with
  | nil => simp
  | cons b bs => exact h b (by simp)
theorem small_tail {bs : List Nat} (h : Small bs) : Small bs.tail := fun d hd => h d (List.mem_of_mem_tail hd)
theorem val_subL : ∀ {a b : List Nat} {c : Nat}, Small a → Small b → c ≤ 1 → val b + c ≤ val a → val (subL a b c) + val b + c = val a
  | [], b, c, _, _, _, h => by simp only [subL, val] at *; omega
  | a :: aS, b, c, ha, hb, hc, h => by
    have h1 := ha a (by simp)
    have h2 := small_headD hb
    have hv := val_headD b
    have hs := small_tail hb
    have ha' : Small aS := fun d hd => ha d (by simp [hd])
    simp only [subL]
    simp only [val] at h
    split
    · have ih := val_subL (a := aS) (b := b.tail) (c := 1) ha' hs (by omega) (by omega)
      simp only [val]; omega
    · have ih := val_subL (a := aS) (b := b.tail) (c := 0) ha' hs (by omega) (by omega)
      simp only [val]; omega
theorem small_subL : ∀ {a b : List Nat} {c : Nat}, Small a → Small b → c ≤ 1 → Small (subL a b c)
  | [], b, c, _, _, _ => by simp only [subL]; intro d hd; simp at hd
  | a :: aS, b, c, ha, hb, hc => by
    have h1 := ha a (by simp)
    have h2 := small_headD hb
    have ha' : Small aS := fun d hd => ha d (by simp [hd])
    simp only [subL]
    intro d hd
    split at hd
    · rcases List.mem_cons.1 hd with rfl | hd
      · omega
      · exact small_subL ha' (small_tail hb) (by omega) d hd
    · rcases List.mem_cons.1 hd with rfl | hd
      · omega
      · exact small_subL ha' (small_tail hb) (by omega) d hd
theorem val_lt_pow : ∀ {l : List Nat}, Small l → val l < 10 ^ l.length
  | [], _ => by simp [val]
  | d :: l, h => by
    have h1 := h d (by simp)
    have ih := val_lt_pow (l := l) fun x hx => h x (by simp [hx])
    simp only [val, List.length_cons, Nat.pow_succ]; omega
theorem val_split (l : List Nat) (i : Nat) (hi : i < l.length) : val l = val (l.take i) + 10 ^ i * (l[i] + 10 * val (l.drop (i + 1))) := by
  conv => lhs; rw [← List.take_append_drop i l, val_append, List.drop_eq_getElem_cons hi]
  rw [List.length_take, Nat.min_eq_left (by omega)]; rfl
theorem less_at {a b : List Nat} (ha : Small a) {i : Nat} (hi : i < a.length) (hj : i < b.length) (hd : a.drop (i + 1) = b.drop (i + 1)) (h : a[i] < b[i]) : val a < val b := by
  rw [val_split a i hi, val_split b i hj, hd]
  have h1 := val_lt_pow (l := a.take i) fun d hd => ha d (List.mem_of_mem_take hd)
  rw [List.length_take, Nat.min_eq_left (by omega)] at h1
  have h2 : 10 ^ i * (a[i] + 1 + 10 * val (b.drop (i + 1))) ≤ 10 ^ i * (b[i] + 10 * val (b.drop (i + 1))) := Nat.mul_le_mul_left _ (by omega)
  have h3 : 10 ^ i * (a[i] + 1 + 10 * val (b.drop (i + 1))) = 10 ^ i * (a[i] + 10 * val (b.drop (i + 1))) + 10 ^ i := by
    rw [show a[i] + 1 + 10 * val (b.drop (i + 1)) = (a[i] + 10 * val (b.drop (i + 1))) + 1 by omega, Nat.mul_add, Nat.mul_one]
  omega
theorem digs_length_lt {m n : Nat} : (digs m).length < (digs n).length → m < n := by
  intro h
  have h1 := val_lt_pow (small_digs m)
  rw [val_digs] at h1
  -- the last digit of n is no nought
  have key : ∀ n, n ≠ 0 → 10 ^ ((digs n).length - 1) ≤ n := by
    intro n
    induction n using Nat.strongRecOn with
    | _ n ih =>
      intro hn
      rw [digs_pos hn, List.length_cons, Nat.add_sub_cancel]
      rcases Nat.eq_zero_or_pos (n / 10) with h0 | h0
      · rw [h0, digs_zero]; simp; omega
      · have := ih (n / 10) (by omega) (by omega)
        have hl : (digs (n / 10)).length ≠ 0 := by
          rw [digs_pos (by omega)]; simp
        obtain ⟨k, hk⟩ : ∃ k, (digs (n / 10)).length = k + 1 := ⟨(digs (n / 10)).length - 1, by omega⟩
        rw [hk, Nat.add_sub_cancel] at this
        rw [hk, Nat.pow_succ]; omega
  have hn : n ≠ 0 := by
    intro e; subst e; rw [digs_zero] at h; simp at h
  have h2 := key n hn
  have h3 : 10 ^ (digs m).length ≤ 10 ^ ((digs n).length - 1) := Nat.pow_le_pow_right (by omega) (by omega)
  omega
theorem digs_length_le {n k : Nat} (h : n < 10 ^ k) : (digs n).length ≤ k := by
  rcases Nat.lt_or_ge k (digs n).length with h1 | h1
  · exfalso
    have h2 : (digs (10 ^ k - 1)).length < (digs n).length ∨ (digs n).length ≤ (digs (10 ^ k - 1)).length := by omega
    have key : ∀ k n, n < 10 ^ k → (digs n).length ≤ k := by
      intro k
      induction k with
      | zero => intro n hn; have : n = 0 := by simpa using hn
                subst this; rw [digs_zero]; simp
      | succ k ih =>
        intro n hn
        rcases Nat.eq_zero_or_pos n with h0 | h0
        · subst h0; rw [digs_zero]; simp
        · rw [digs_pos (by omega), List.length_cons]
          have := ih (n / 10) (by rw [Nat.pow_succ] at hn; omega)
          omega
    have := key k n h
    omega
  · exact h1
theorem drop_cases (a : List Nat) (i : Nat) : (a.drop i = [] ∧ a[i]? = none ∧ a.drop (i + 1) = [] ∧ a.length ≤ i) ∨ (∃ x, a.drop i = x :: a.drop (i + 1) ∧ a[i]? = some x ∧ i < a.length) := by
  rcases Nat.lt_or_ge i a.length with h | h
  · exact .inr ⟨a[i], List.drop_eq_getElem_cons h, List.getElem?_eq_getElem h, h⟩
  · exact .inl ⟨List.drop_eq_nil_of_le h, List.getElem?_eq_none h, List.drop_eq_nil_of_le (by omega), h⟩
theorem add_step (a b : List Nat) (i c : Nat) (h : i < a.length ∨ i < b.length ∨ 0 < c) (hc : c < 10) :
    addL (a.drop i) (b.drop i) c = ((a[i]?.getD 0) + (b[i]?.getD 0) + c) % 10 :: addL (a.drop (i + 1)) (b.drop (i + 1)) (((a[i]?.getD 0) + (b[i]?.getD 0) + c) / 10) := by
  rcases drop_cases a i with ⟨a1, a2, a3, a4⟩ | ⟨x, a1, a2, a3⟩ <;> rcases drop_cases b i with ⟨b1, b2, b3, b4⟩ | ⟨y, b1, b2, b3⟩
  · rw [a1, a2, a3, b1, b2, b3]
    have : c ≠ 0 := by omega
    have e1 : c % 10 = c := Nat.mod_eq_of_lt hc
    have e2 : c / 10 = 0 := Nat.div_eq_of_lt hc
    simp [addL, this, e1, e2]
  · rw [a1, a2, a3, b1, b2]; simp [addL]
  · rw [a1, a2, b1, b2, b3]; simp [addL]
  · rw [a1, a2, b1, b2]; simp [addL]
theorem sub_step (a b : List Nat) (i c d e : Nat) (hd : a[i]? = some d) (he : b[i]?.getD 0 = e) :
    subL (a.drop i) (b.drop i) c = if d < e + c then (d + 10 - e - c) :: subL (a.drop (i + 1)) (b.drop (i + 1)) 1 else (d - e - c) :: subL (a.drop (i + 1)) (b.drop (i + 1)) 0 := by
  obtain ⟨x, a1, a2, a3⟩ := (drop_cases a i).resolve_left (by rintro ⟨_, h, _⟩; rw [hd] at h; cases h)
  rw [hd] at a2
  cases a2
  rw [a1]
  rcases drop_cases b i with ⟨b1, b2, b3, b4⟩ | ⟨y, b1, b2, b3⟩
  · rw [b2] at he; simp at he; subst he
    rw [b1, b3]; simp [subL]
  · rw [b2] at he; simp at he; subst he
    rw [b1]; simp [subL]
end Go.Proofs.Ytdodgbhodkcckaa.Dig
end
section
set_option linter.unusedVariables false
set_option linter.unusedSimpArgs false
set_option autoImplicit false
set_option maxRecDepth 100000
namespace Go.Proofs.Ytdodgbhodkcckaa.Pv
open Go Go.RowKit Dig
def digD (ds : List Nat) : List D := ds.map fun (d : Nat) => I64 (d : Int)
theorem dig_get {ds : List Nat} {i d : Nat} (h : ds[i]? = some d) : (digD ds)[i]? = some (.v (.int .i64 (d : Int))) := by simp [digD, h]
theorem dig_len (ds : List Nat) : (digD ds).length = ds.length := by simp [digD]
theorem dig_take (ds : List Nat) (n : Nat) : (digD ds).take n = digD (ds.take n) := by simp [digD, List.map_take]
theorem wrap_pred {n : Nat} (h : 0 < n) (h2 : n < 9223372036854775807) : IntKind.i64.wrap ((n : Int) - 1) = ((n - 1 : Nat) : Int) := by rw [wrap_of (by omega) (by omega)]; omega
def L160 (ds : List Nat) (n : Nat) : St := ⟨[(3, pint .i64 n), (0, .d (.slc 1 (digD ds)))], [], 40⟩
set_option maxHeartbeats 8000000 in
theorem run160 (ds : List Nat) (hl : ds.length ≤ 1000000) : Runs Try.prog 160 [.d (.slc 1 (digD ds))] [] (.d (.slc 1 (digD (ds.take (tlen ds ds.length))))) [] := by
  have hlen := dig_len ds
  refine Runs.of (kit Try.prog) Try.func160 rfl rfl (by rw [Try.ntmps160]; exact of_decide_eq_true rfl) ?_; rw [Try.ntmps160, Try.results160]
  repeat' (first|((first|refine goA rfl fun K hK=>?_|refine goB rfl fun K hK=>?_|refine goC rfl rfl fun K hK=>?_|refine goD rfl rfl fun K hK=>?_);simp (dsimp:=false) only [↓gq,↓stepP,↓stepG,go_sem,hlen])|refine Pwp.seq ?_|refine Pwp.block ?_|(refine Pwp.exit ?_;simp only [thenS,blockS,if_true,if_false,reduceIte,Nat.reduceEqDiff,Nat.add_one_ne_zero,reduceCtorEq])|(refine Pwp.skip ?_;simp only [thenS,blockS])|(refine Pwp.cond rfl True.intro (fun h=>?_) (fun h=>?_)<;>(try (cases h;done))<;>(try simp only [h]))|refine Pwp.ret ?_|(refine hK _ ?_;clear hK K)|(refine hK _ _ rfl ?_;clear hK K)|refine CallG.off ?_|with_reducible refine Or.inl ?_|simp only [thenS,blockS]|with_reducible refine And.intro ?_ ?_|with_reducible exact True.intro|simp (dsimp:=false) only [↓gq,↓stepP,↓stepG,go_sem,hlen])
  all_goals (try (first|(intro hg;simp_all;done)|(intro hg;simp [hg];done)|exact of_decide_eq_true rfl|(cases h;done)))
  refine Pwp.loop (fun k s => ∃ n, n ≤ ds.length ∧ k = n ∧ s = L160 ds n ∧ tlen ds n = tlen ds ds.length) ds.length (s := L160 ds ds.length) (Sub.same (by simp [L160]) ?_ ?_) ⟨ds.length, Nat.le_refl _, rfl, rfl, rfl⟩ ?_
  · simp [viewH, L160]
  · simp [viewT, viewP, L160, V0, keptOf, St.ev, find, PVal.toD, disj, PVal.ids, subD_refl]
  rintro k s ⟨n, hn, rfl, rfl, ht⟩
  unfold L160
  cases k with
  | zero =>
    have hc : decide ((0 : Int) < ((0 : Nat) : Int)) = false := by simp
    have hc2 : decide ((0 : Int) < 0) = false := by simp
    have wm : (IntKind.i64.wrap (-1)).toNat = 0 := by decide
    have hfin : Runs Try.prog 160 [.d (.slc 1 (digD ds))] [] (.d (.slc 1 (digD (ds.take (tlen ds ds.length))))) [] → True := fun _ => trivial
    have ht0 : ds.take (tlen ds ds.length) = [] := by rw [← ht]; rfl
    rw [ht0]
    have hcases : (digD ds)[0]? = none ∨ ∃ d : Nat, (digD ds)[0]? = some (.v (.int .i64 (d : Int))) := by
      cases ds with
      | nil => exact .inl rfl
      | cons d ds => exact .inr ⟨d, rfl⟩
    rcases hcases with hd0 | ⟨d, hd0⟩
    · repeat' (first|((first|refine goA rfl fun K hK=>?_|refine goB rfl fun K hK=>?_|refine goC rfl rfl fun K hK=>?_|refine goD rfl rfl fun K hK=>?_);simp (dsimp:=false) only [↓gq,↓stepP,↓stepG,go_sem,hc,hc2,hlen,wm,hd0])|refine Pwp.seq ?_|refine Pwp.block ?_|(refine Pwp.exit ?_;simp only [thenS,blockS,if_true,if_false,reduceIte,Nat.reduceEqDiff,Nat.add_one_ne_zero,reduceCtorEq])|(refine Pwp.skip ?_;simp only [thenS,blockS])|(refine Pwp.cond rfl True.intro (fun h=>?_) (fun h=>?_)<;>(try (cases h;done))<;>(try simp only [h]))|refine Pwp.ret ?_|(refine hK _ ?_;clear hK K)|(refine hK _ _ rfl ?_;clear hK K)|refine CallG.off ?_|with_reducible refine Or.inl ?_|simp only [thenS,blockS]|with_reducible refine And.intro ?_ ?_|with_reducible exact True.intro|simp (dsimp:=false) only [↓gq,↓stepP,↓stepG,go_sem,hc,hc2,hlen,wm,hd0])
      all_goals (try (first|(intro hg;simp_all;done)|(intro hg;simp [hg];done)|exact of_decide_eq_true rfl|(cases h;done)))
      all_goals (try omega)
      (refine Fin.data (.inr rfl) (by simp (dsimp:=false) only [↓gq,↓stepP,↓stepG,go_sem,resL]; rfl) (by simp only [and_self]) (by simp (dsimp:=false) only [↓gq,↓stepP,↓stepG,go_sem,resP,Nat.le_refl,List.take_length]; try rfl) ?_)
      exact subD_refl _
    · repeat' (first|((first|refine goA rfl fun K hK=>?_|refine goB rfl fun K hK=>?_|refine goC rfl rfl fun K hK=>?_|refine goD rfl rfl fun K hK=>?_);simp (dsimp:=false) only [↓gq,↓stepP,↓stepG,go_sem,hc,hc2,hlen,wm,hd0])|refine Pwp.seq ?_|refine Pwp.block ?_|(refine Pwp.exit ?_;simp only [thenS,blockS,if_true,if_false,reduceIte,Nat.reduceEqDiff,Nat.add_one_ne_zero,reduceCtorEq])|(refine Pwp.skip ?_;simp only [thenS,blockS])|(refine Pwp.cond rfl True.intro (fun h=>?_) (fun h=>?_)<;>(try (cases h;done))<;>(try simp only [h]))|refine Pwp.ret ?_|(refine hK _ ?_;clear hK K)|(refine hK _ _ rfl ?_;clear hK K)|refine CallG.off ?_|with_reducible refine Or.inl ?_|simp only [thenS,blockS]|with_reducible refine And.intro ?_ ?_|with_reducible exact True.intro|simp (dsimp:=false) only [↓gq,↓stepP,↓stepG,go_sem,hc,hc2,hlen,wm,hd0])
      all_goals (try (first|(intro hg;simp_all;done)|(intro hg;simp [hg];done)|exact of_decide_eq_true rfl|(cases h;done)))
      all_goals (try omega)
      (refine Fin.data (.inr rfl) (by simp (dsimp:=false) only [↓gq,↓stepP,↓stepG,go_sem,resL]; rfl) (by simp only [and_self]) (by simp (dsimp:=false) only [↓gq,↓stepP,↓stepG,go_sem,resP,Nat.le_refl,List.take_length]; try rfl) ?_)
      exact subD_refl _
  | succ n =>
    obtain ⟨d, hd⟩ : ∃ d, ds[n]? = some d := ⟨_, List.getElem?_eq_getElem (by omega)⟩
    have hg := dig_get hd
    have hc : decide ((0 : Int) < ((n + 1 : Nat) : Int)) = true := decide_eq_true (by omega)
    have w1 : IntKind.i64.wrap (((n + 1 : Nat) : Int) - 1) = (n : Int) := by rw [wrap_pred (by omega) (by omega)]; simp
    by_cases h0 : d = 0
    · subst h0
      have he : ((((0 : Nat) : Int)) == 0) = true := by simp
      repeat' (first|((first|refine goA rfl fun K hK=>?_|refine goB rfl fun K hK=>?_|refine goC rfl rfl fun K hK=>?_|refine goD rfl rfl fun K hK=>?_);simp (dsimp:=false) only [↓gq,↓stepP,↓stepG,go_sem,hc,he,w1,hg,hlen])|refine Pwp.seq ?_|refine Pwp.block ?_|(refine Pwp.exit ?_;simp only [thenS,blockS,if_true,if_false,reduceIte,Nat.reduceEqDiff,Nat.add_one_ne_zero,reduceCtorEq])|(refine Pwp.skip ?_;simp only [thenS,blockS])|(refine Pwp.cond rfl True.intro (fun h=>?_) (fun h=>?_)<;>(try (cases h;done))<;>(try simp only [h]))|refine Pwp.ret ?_|(refine hK _ ?_;clear hK K)|(refine hK _ _ rfl ?_;clear hK K)|refine CallG.off ?_|with_reducible refine Or.inl ?_|simp only [thenS,blockS]|with_reducible refine And.intro ?_ ?_|with_reducible exact True.intro|simp (dsimp:=false) only [↓gq,↓stepP,↓stepG,go_sem,hc,he,w1,hg,hlen])
      all_goals (try (first|(intro hg;simp_all;done)|(intro hg;simp [hg];done)|exact of_decide_eq_true rfl|(cases h;done)))
      refine ⟨n, L160 ds n, by omega, Sub.same (by simp [L160]) ?_ ?_, n, by omega, rfl, rfl, ?_⟩
      · simp [viewH, L160]
      · simp [viewT, viewP, L160, V0, keptOf, St.ev, find, PVal.toD, disj, PVal.ids, subD_refl]
      · rw [← ht]; simp [tlen, hd]
    · have he : ((d : Int) == 0) = false := by simp [h0]
      repeat' (first|((first|refine goA rfl fun K hK=>?_|refine goB rfl fun K hK=>?_|refine goC rfl rfl fun K hK=>?_|refine goD rfl rfl fun K hK=>?_);simp (dsimp:=false) only [↓gq,↓stepP,↓stepG,go_sem,hc,he,w1,hg,hlen])|refine Pwp.seq ?_|refine Pwp.block ?_|(refine Pwp.exit ?_;simp only [thenS,blockS,if_true,if_false,reduceIte,Nat.reduceEqDiff,Nat.add_one_ne_zero,reduceCtorEq])|(refine Pwp.skip ?_;simp only [thenS,blockS])|(refine Pwp.cond rfl True.intro (fun h=>?_) (fun h=>?_)<;>(try (cases h;done))<;>(try simp only [h]))|refine Pwp.ret ?_|(refine hK _ ?_;clear hK K)|(refine hK _ _ rfl ?_;clear hK K)|refine CallG.off ?_|with_reducible refine Or.inl ?_|simp only [thenS,blockS]|with_reducible refine And.intro ?_ ?_|with_reducible exact True.intro|simp (dsimp:=false) only [↓gq,↓stepP,↓stepG,go_sem,hc,he,w1,hg,hlen])
      all_goals (try (first|(intro hg;simp_all;done)|(intro hg;simp [hg];done)|exact of_decide_eq_true rfl|(cases h;done)))
      all_goals (try omega)
      (refine Fin.data (.inr rfl) (by simp (dsimp:=false) only [↓gq,↓stepP,↓stepG,go_sem,resL]; rfl) (by simp only [and_self]) (by simp (dsimp:=false) only [↓gq,↓stepP,↓stepG,go_sem,resP,Nat.le_refl,List.take_length]; try rfl) ?_)
      rw [show tlen ds ds.length = n + 1 from by rw [← ht]; simp [tlen, hd, h0], dig_take]
      exact subD_refl _
end Go.Proofs.Ytdodgbhodkcckaa.Pv
end
section
set_option linter.unusedVariables false
set_option linter.unusedSimpArgs false
set_option autoImplicit false
set_option maxRecDepth 100000
namespace Go.Proofs.Ytdodgbhodkcckaa.Pv
open Go Go.RowKit Dig
def L161 (a b out : List Nat) (i c : Nat) : St := ⟨[(7, pint .i64 i), (6, pint .i64 c), (5, .own 9 0 1 0 out.length), (0, .d (.slc 1 (digD a))), (1, .d (.slc 1 (digD b)))], [(9, .arr 3 1 0 none (digD out))], 40⟩
theorem quo10 {m : Nat} (h : m < 1000) : IntKind.i64.wrap (Int.tdiv (m : Int) 10) = ((m / 10 : Nat) : Int) := by
  rw [Int.tdiv_eq_ediv_of_nonneg (by omega), wrap_of (by omega) (by omega)]; omega
theorem rem10 {m : Nat} : Int.tmod (m : Int) 10 = ((m % 10 : Nat) : Int) := by
  rw [Int.tmod_eq_emod_of_nonneg (by omega)]; omega
theorem end161 {a b out : List Nat} {i c m : Nat} {s : St} (hi : i ≤ max a.length b.length + 1) (hc : c ≤ 1) (hz : max a.length b.length < i → c = 0) (ho : out.length = i) (hadd : out ++ addL (a.drop i) (b.drop i) c = addL a b 0) (h : i < a.length ∨ i < b.length ∨ 0 < c)
    (hm : m = (a[i]?.getD 0) + (b[i]?.getD 0) + c) (hm2 : m < 20) (hs : Sub 52 s (L161 a b (out ++ [m % 10]) (i + 1) (m / 10))) (h9 : i = max a.length b.length → m < 10) :
    ∃ k' t, k' < max a.length b.length + 2 - i ∧ Sub 52 s t ∧ ∃ i c out, k' = max a.length b.length + 2 - i ∧ i ≤ max a.length b.length + 1 ∧ c ≤ 1 ∧ (max a.length b.length < i → c = 0) ∧ out.length = i ∧ out ++ addL (a.drop i) (b.drop i) c = addL a b 0 ∧ t = L161 a b out i c := by
  refine ⟨max a.length b.length + 2 - (i + 1), _, by omega, hs, i + 1, m / 10, out ++ [m % 10], rfl, by omega, by omega, by omega, by simp [ho], ?_, rfl⟩
  rw [← hadd, add_step a b i c h (by omega), ← hm]; simp
set_option maxHeartbeats 8000000 in
theorem run161 (a b : List Nat) (ha : Small a) (hb : Small b) (hl : a.length ≤ 1000000) (hk : b.length ≤ 1000000) : Runs Try.prog 161 [.d (.slc 1 (digD a)), .d (.slc 1 (digD b))] [] (.d (.slc 1 (digD (addL a b 0)))) [] := by
  have hla := dig_len a
  have hlb := dig_len b
  refine Runs.of (kit Try.prog) Try.func161 rfl rfl (by rw [Try.ntmps161]; exact of_decide_eq_true rfl) ?_; rw [Try.ntmps161, Try.results161]
  repeat' (first|((first|refine goA rfl fun K hK=>?_|refine goB rfl fun K hK=>?_|refine goC rfl rfl fun K hK=>?_|refine goD rfl rfl fun K hK=>?_);simp (dsimp:=false) only [↓gq,↓stepP,↓stepG,go_sem])|refine Pwp.seq ?_|refine Pwp.block ?_|(refine Pwp.exit ?_;simp only [thenS,blockS,if_true,if_false,reduceIte,Nat.reduceEqDiff,Nat.add_one_ne_zero,reduceCtorEq])|(refine Pwp.skip ?_;simp only [thenS,blockS])|(refine Pwp.cond rfl True.intro (fun h=>?_) (fun h=>?_)<;>(try (cases h;done))<;>(try simp only [h]))|refine Pwp.ret ?_|(refine hK _ ?_;clear hK K)|(refine hK _ _ rfl ?_;clear hK K)|refine CallG.off ?_|with_reducible refine Or.inl ?_|simp only [thenS,blockS]|with_reducible refine And.intro ?_ ?_|with_reducible exact True.intro|simp (dsimp:=false) only [↓gq,↓stepP,↓stepG,go_sem])
  all_goals (try (first|(intro hg;simp_all;done)|(intro hg;simp [hg];done)|exact of_decide_eq_true rfl|(cases h;done)))
  refine Pwp.loop (fun k s => ∃ i c out, k = max a.length b.length + 2 - i ∧ i ≤ max a.length b.length + 1 ∧ c ≤ 1 ∧ (max a.length b.length < i → c = 0) ∧ out.length = i ∧ out ++ addL (a.drop i) (b.drop i) c = addL a b 0 ∧ s = L161 a b out i c) (max a.length b.length + 2) (s := L161 a b [] 0 0) (Sub.view V9n (by simp [L161]) rfl ?_ ?_) ⟨0, 0, [], by omega, by omega, by omega, by omega, rfl, rfl, rfl⟩ ?_
  · simp [viewH, viewP, viewL, viewO, L161, V9n, keptOf, find, digD]
  · simp [viewT, viewP, L161, V9n, keptOf, St.ev, find, PVal.toD, subD_refl, disj, PVal.ids, pnil]
  rintro k s ⟨i, c, out, rfl, hi, hc, hz, ho, hadd, rfl⟩
  unfold L161
  have hol := dig_len out
  have htk : (digD out).take out.length = digD out := List.take_of_length_le (by omega)
  rcases Nat.lt_or_ge i a.length with h1 | h1 <;> rcases Nat.lt_or_ge i b.length with h2 | h2
  · obtain ⟨d, hd⟩ : ∃ d, a[i]? = some d := ⟨_, List.getElem?_eq_getElem h1⟩
    have hd1 := ha d (List.mem_of_getElem? hd)
    have hg := dig_get hd
    have c1 : decide ((i : Int) < (a.length : Int)) = true := decide_eq_true (by omega)
    obtain ⟨e, he⟩ : ∃ e, b[i]? = some e := ⟨_, List.getElem?_eq_getElem h2⟩
    have he1 := hb e (List.mem_of_getElem? he)
    have hg2 := dig_get he
    have c2 : decide ((i : Int) < (b.length : Int)) = true := decide_eq_true (by omega)
    have s1 : IntKind.i64.wrap ((c : Int) + (d : Int)) = ((c + d : Nat) : Int) := by rw [wrap_of (by omega) (by omega)]; omega
    have s2 : IntKind.i64.wrap (((c + d : Nat) : Int) + (e : Int)) = ((c + d + e : Nat) : Int) := by rw [wrap_of (by omega) (by omega)]; omega
    have q1 := quo10 (m := c + d + e) (by omega)
    have q2 := rem10 (m := c + d + e)
    repeat' (first|((first|refine goA rfl fun K hK=>?_|refine goB rfl fun K hK=>?_|refine goC rfl rfl fun K hK=>?_|refine goD rfl rfl fun K hK=>?_);simp (dsimp:=false) only [↓gq,↓stepP,↓stepG,go_sem,c1,c2,hg,hg2,hla,hlb,htk,hol,s1,s2,q1,q2])|refine Pwp.seq ?_|refine Pwp.block ?_|(refine Pwp.exit ?_;simp only [thenS,blockS,if_true,if_false,reduceIte,Nat.reduceEqDiff,Nat.add_one_ne_zero,reduceCtorEq])|(refine Pwp.skip ?_;simp only [thenS,blockS])|(refine Pwp.cond rfl True.intro (fun h=>?_) (fun h=>?_)<;>(try (cases h;done))<;>(try simp only [h]))|refine Pwp.ret ?_|(refine hK _ ?_;clear hK K)|(refine hK _ _ rfl ?_;clear hK K)|refine CallG.off ?_|with_reducible refine Or.inl ?_|simp only [thenS,blockS]|with_reducible refine And.intro ?_ ?_|with_reducible exact True.intro|simp (dsimp:=false) only [↓gq,↓stepP,↓stepG,go_sem,c1,c2,hg,hg2,hla,hlb,htk,hol,s1,s2,q1,q2])
    all_goals (try (first|(intro hg;simp_all;done)|(intro hg;simp [hg];done)|exact of_decide_eq_true rfl|(cases h;done)))
    all_goals (try (first | omega | (simp [maxLen]; omega)))
    refine end161 (m := c + d + e) hi hc hz ho hadd (.inl h1) (by simp [hd, he] <;> omega) (by omega) (Sub.view (V9 1) (by simp [L161]) rfl ?_ ?_) (by intro; omega)
    · simp [viewH, viewP, viewL, viewO, L161, V9, keptOf, find, digD]
    · rw [wrap_succ (by omega)]
      simp [viewT, viewP, L161, V9, keptOf, St.ev, find, PVal.toD, subD_refl, disj, PVal.ids]
  · obtain ⟨d, hd⟩ : ∃ d, a[i]? = some d := ⟨_, List.getElem?_eq_getElem h1⟩
    have hd1 := ha d (List.mem_of_getElem? hd)
    have hg := dig_get hd
    have c1 : decide ((i : Int) < (a.length : Int)) = true := decide_eq_true (by omega)
    have he : b[i]? = none := List.getElem?_eq_none h2
    have c2 : decide ((i : Int) < (b.length : Int)) = false := decide_eq_false (by omega)
    have s1 : IntKind.i64.wrap ((c : Int) + (d : Int)) = ((c + d : Nat) : Int) := by rw [wrap_of (by omega) (by omega)]; omega
    have q1 := quo10 (m := c + d) (by omega)
    have q2 := rem10 (m := c + d)
    repeat' (first|((first|refine goA rfl fun K hK=>?_|refine goB rfl fun K hK=>?_|refine goC rfl rfl fun K hK=>?_|refine goD rfl rfl fun K hK=>?_);simp (dsimp:=false) only [↓gq,↓stepP,↓stepG,go_sem,c1,c2,hg,hla,hlb,htk,hol,s1,q1,q2])|refine Pwp.seq ?_|refine Pwp.block ?_|(refine Pwp.exit ?_;simp only [thenS,blockS,if_true,if_false,reduceIte,Nat.reduceEqDiff,Nat.add_one_ne_zero,reduceCtorEq])|(refine Pwp.skip ?_;simp only [thenS,blockS])|(refine Pwp.cond rfl True.intro (fun h=>?_) (fun h=>?_)<;>(try (cases h;done))<;>(try simp only [h]))|refine Pwp.ret ?_|(refine hK _ ?_;clear hK K)|(refine hK _ _ rfl ?_;clear hK K)|refine CallG.off ?_|with_reducible refine Or.inl ?_|simp only [thenS,blockS]|with_reducible refine And.intro ?_ ?_|with_reducible exact True.intro|simp (dsimp:=false) only [↓gq,↓stepP,↓stepG,go_sem,c1,c2,hg,hla,hlb,htk,hol,s1,q1,q2])
    all_goals (try (first|(intro hg;simp_all;done)|(intro hg;simp [hg];done)|exact of_decide_eq_true rfl|(cases h;done)))
    all_goals (try (first | omega | (simp [maxLen]; omega)))
    refine end161 (m := c + d) hi hc hz ho hadd (.inl h1) (by simp [hd, he] <;> omega) (by omega) (Sub.view (V9 1) (by simp [L161]) rfl ?_ ?_) (by intro; omega)
    · simp [viewH, viewP, viewL, viewO, L161, V9, keptOf, find, digD]
    · rw [wrap_succ (by omega)]
      simp [viewT, viewP, L161, V9, keptOf, St.ev, find, PVal.toD, subD_refl, disj, PVal.ids]
  · have hd : a[i]? = none := List.getElem?_eq_none h1
    have c1 : decide ((i : Int) < (a.length : Int)) = false := decide_eq_false (by omega)
    obtain ⟨e, he⟩ : ∃ e, b[i]? = some e := ⟨_, List.getElem?_eq_getElem h2⟩
    have he1 := hb e (List.mem_of_getElem? he)
    have hg2 := dig_get he
    have c2 : decide ((i : Int) < (b.length : Int)) = true := decide_eq_true (by omega)
    have s2 : IntKind.i64.wrap ((c : Int) + (e : Int)) = ((c + e : Nat) : Int) := by rw [wrap_of (by omega) (by omega)]; omega
    have q1 := quo10 (m := c + e) (by omega)
    have q2 := rem10 (m := c + e)
    repeat' (first|((first|refine goA rfl fun K hK=>?_|refine goB rfl fun K hK=>?_|refine goC rfl rfl fun K hK=>?_|refine goD rfl rfl fun K hK=>?_);simp (dsimp:=false) only [↓gq,↓stepP,↓stepG,go_sem,c1,c2,hg2,hla,hlb,htk,hol,s2,q1,q2])|refine Pwp.seq ?_|refine Pwp.block ?_|(refine Pwp.exit ?_;simp only [thenS,blockS,if_true,if_false,reduceIte,Nat.reduceEqDiff,Nat.add_one_ne_zero,reduceCtorEq])|(refine Pwp.skip ?_;simp only [thenS,blockS])|(refine Pwp.cond rfl True.intro (fun h=>?_) (fun h=>?_)<;>(try (cases h;done))<;>(try simp only [h]))|refine Pwp.ret ?_|(refine hK _ ?_;clear hK K)|(refine hK _ _ rfl ?_;clear hK K)|refine CallG.off ?_|with_reducible refine Or.inl ?_|simp only [thenS,blockS]|with_reducible refine And.intro ?_ ?_|with_reducible exact True.intro|simp (dsimp:=false) only [↓gq,↓stepP,↓stepG,go_sem,c1,c2,hg2,hla,hlb,htk,hol,s2,q1,q2])
    all_goals (try (first|(intro hg;simp_all;done)|(intro hg;simp [hg];done)|exact of_decide_eq_true rfl|(cases h;done)))
    all_goals (try (first | omega | (simp [maxLen]; omega)))
    refine end161 (m := c + e) hi hc hz ho hadd (.inr (.inl h2)) (by simp [hd, he] <;> omega) (by omega) (Sub.view (V9 1) (by simp [L161]) rfl ?_ ?_) (by intro; omega)
    · simp [viewH, viewP, viewL, viewO, L161, V9, keptOf, find, digD]
    · rw [wrap_succ (by omega)]
      simp [viewT, viewP, L161, V9, keptOf, St.ev, find, PVal.toD, subD_refl, disj, PVal.ids]
  · have hd : a[i]? = none := List.getElem?_eq_none h1
    have c1 : decide ((i : Int) < (a.length : Int)) = false := decide_eq_false (by omega)
    have he : b[i]? = none := List.getElem?_eq_none h2
    have c2 : decide ((i : Int) < (b.length : Int)) = false := decide_eq_false (by omega)
    have q1 := quo10 (m := c) (by omega)
    have q2 := rem10 (m := c)
    rcases Nat.eq_zero_or_pos c with h0 | h3
    · subst h0
      have c3 : decide ((0 : Int) < ((0 : Nat) : Int)) = false := by simp
      have c4 : decide ((0 : Int) < 0) = false := by simp
      repeat' (first|((first|refine goA rfl fun K hK=>?_|refine goB rfl fun K hK=>?_|refine goC rfl rfl fun K hK=>?_|refine goD rfl rfl fun K hK=>?_);simp (dsimp:=false) only [↓gq,↓stepP,↓stepG,go_sem,c1,c2,hla,hlb,htk,hol,q1,q2,c3,c4])|refine Pwp.seq ?_|refine Pwp.block ?_|(refine Pwp.exit ?_;simp only [thenS,blockS,if_true,if_false,reduceIte,Nat.reduceEqDiff,Nat.add_one_ne_zero,reduceCtorEq])|(refine Pwp.skip ?_;simp only [thenS,blockS])|(refine Pwp.cond rfl True.intro (fun h=>?_) (fun h=>?_)<;>(try (cases h;done))<;>(try simp only [h]))|refine Pwp.ret ?_|(refine hK _ ?_;clear hK K)|(refine hK _ _ rfl ?_;clear hK K)|refine CallG.off ?_|with_reducible refine Or.inl ?_|simp only [thenS,blockS]|with_reducible refine And.intro ?_ ?_|with_reducible exact True.intro|simp (dsimp:=false) only [↓gq,↓stepP,↓stepG,go_sem,c1,c2,hla,hlb,htk,hol,q1,q2,c3,c4])
      all_goals (try (first|(intro hg;simp_all;done)|(intro hg;simp [hg];done)|exact of_decide_eq_true rfl|(cases h;done)))
      all_goals (try (first | omega | (simp [maxLen]; omega)))
      rw [List.drop_eq_nil_of_le h1, List.drop_eq_nil_of_le h2] at hadd
      have hadd2 : addL a b 0 = out := by rw [← hadd]; simp [addL]
      (refine Fin.data (.inr rfl) (by simp (dsimp:=false) only [↓gq,↓stepP,↓stepG,go_sem,resL,htk,hol]; rfl) (by simp only [and_self]) (by simp (dsimp:=false) only [↓gq,↓stepP,↓stepG,go_sem,resP,Nat.le_refl,List.take_length,htk,hol]; try rfl) ?_)
      rw [hadd2]; exact subD_refl _
    · have c3 : decide ((0 : Int) < (c : Int)) = true := decide_eq_true (by omega)
      repeat' (first|((first|refine goA rfl fun K hK=>?_|refine goB rfl fun K hK=>?_|refine goC rfl rfl fun K hK=>?_|refine goD rfl rfl fun K hK=>?_);simp (dsimp:=false) only [↓gq,↓stepP,↓stepG,go_sem,c1,c2,hla,hlb,htk,hol,q1,q2,c3])|refine Pwp.seq ?_|refine Pwp.block ?_|(refine Pwp.exit ?_;simp only [thenS,blockS,if_true,if_false,reduceIte,Nat.reduceEqDiff,Nat.add_one_ne_zero,reduceCtorEq])|(refine Pwp.skip ?_;simp only [thenS,blockS])|(refine Pwp.cond rfl True.intro (fun h=>?_) (fun h=>?_)<;>(try (cases h;done))<;>(try simp only [h]))|refine Pwp.ret ?_|(refine hK _ ?_;clear hK K)|(refine hK _ _ rfl ?_;clear hK K)|refine CallG.off ?_|with_reducible refine Or.inl ?_|simp only [thenS,blockS]|with_reducible refine And.intro ?_ ?_|with_reducible exact True.intro|simp (dsimp:=false) only [↓gq,↓stepP,↓stepG,go_sem,c1,c2,hla,hlb,htk,hol,q1,q2,c3])
      all_goals (try (first|(intro hg;simp_all;done)|(intro hg;simp [hg];done)|exact of_decide_eq_true rfl|(cases h;done)))
      all_goals (try (first | omega | (simp [maxLen]; omega)))
      refine end161 (m := c) hi hc hz ho hadd (.inr (.inr h3)) (by simp [hd, he] <;> omega) (by omega) (Sub.view (V9 1) (by simp [L161]) rfl ?_ ?_) (by intro; omega)
      · simp [viewH, viewP, viewL, viewO, L161, V9, keptOf, find, digD]
      · rw [wrap_succ (by omega)]
        simp [viewT, viewP, L161, V9, keptOf, St.ev, find, PVal.toD, subD_refl, disj, PVal.ids]
end Go.Proofs.Ytdodgbhodkcckaa.Pv
end
section
set_option linter.unusedVariables false
set_option linter.unusedSimpArgs false
set_option autoImplicit false
set_option maxRecDepth 100000
namespace Go.Proofs.Ytdodgbhodkcckaa.Pv
open Go Go.RowKit Dig
def lessB (a b : List Nat) : Bool := if a.length = b.length then decide (val a < val b) else decide (a.length < b.length)
def L162 (a b : List Nat) (n : Nat) : St := ⟨[(5, pint .i64 ((n : Int) - 1)), (0, .d (.slc 1 (digD a))), (1, .d (.slc 1 (digD b)))], [], 40⟩
set_option maxHeartbeats 8000000 in
theorem run162 (a b : List Nat) (ha : Small a) (hb : Small b) (hl : a.length ≤ 1000000) (hk : b.length ≤ 1000000) : Runs Try.prog 162 [.d (.slc 1 (digD a)), .d (.slc 1 (digD b))] [] (pbool (lessB a b)) [] := by
  have hla := dig_len a
  have hlb := dig_len b
  by_cases hab : a.length = b.length
  rotate_left
  · have hne : ((a.length : Int) != (b.length : Int)) = true := by simp; omega
    have hlt : decide ((a.length : Int) < (b.length : Int)) = lessB a b := by unfold lessB; rw [if_neg hab]; simp
    refine Runs.of (kit Try.prog) Try.func162 rfl rfl (by rw [Try.ntmps162]; exact of_decide_eq_true rfl) ?_; rw [Try.ntmps162, Try.results162]
    repeat' (first|((first|refine goA rfl fun K hK=>?_|refine goB rfl fun K hK=>?_|refine goC rfl rfl fun K hK=>?_|refine goD rfl rfl fun K hK=>?_);simp (dsimp:=false) only [↓gq,↓stepP,↓stepG,go_sem,hla,hlb,hne])|refine Pwp.seq ?_|refine Pwp.block ?_|(refine Pwp.exit ?_;simp only [thenS,blockS,if_true,if_false,reduceIte,Nat.reduceEqDiff,Nat.add_one_ne_zero,reduceCtorEq])|(refine Pwp.skip ?_;simp only [thenS,blockS])|(refine Pwp.cond rfl True.intro (fun h=>?_) (fun h=>?_)<;>(try (cases h;done))<;>(try simp only [h]))|refine Pwp.ret ?_|(refine hK _ ?_;clear hK K)|(refine hK _ _ rfl ?_;clear hK K)|refine CallG.off ?_|with_reducible refine Or.inl ?_|simp only [thenS,blockS]|with_reducible refine And.intro ?_ ?_|with_reducible exact True.intro|simp (dsimp:=false) only [↓gq,↓stepP,↓stepG,go_sem,hla,hlb,hne])
    all_goals (try (first|(intro hg;simp_all;done)|(intro hg;simp [hg];done)|exact of_decide_eq_true rfl|(cases h;done)))
    rw [← hlt]
    exact Fin.data (.inr rfl) rfl ⟨True.intro, True.intro⟩ rfl (subD_refl _)
  have hne : ((a.length : Int) != (b.length : Int)) = false := by simp; omega
  have w1 : IntKind.i64.wrap ((a.length : Int) - 1) = (a.length : Int) - 1 := wrap_of (by omega) (by omega)
  refine Runs.of (kit Try.prog) Try.func162 rfl rfl (by rw [Try.ntmps162]; exact of_decide_eq_true rfl) ?_; rw [Try.ntmps162, Try.results162]
  repeat' (first|((first|refine goA rfl fun K hK=>?_|refine goB rfl fun K hK=>?_|refine goC rfl rfl fun K hK=>?_|refine goD rfl rfl fun K hK=>?_);simp (dsimp:=false) only [↓gq,↓stepP,↓stepG,go_sem,hla,hlb,hne,w1])|refine Pwp.seq ?_|refine Pwp.block ?_|(refine Pwp.exit ?_;simp only [thenS,blockS,if_true,if_false,reduceIte,Nat.reduceEqDiff,Nat.add_one_ne_zero,reduceCtorEq])|(refine Pwp.skip ?_;simp only [thenS,blockS])|(refine Pwp.cond rfl True.intro (fun h=>?_) (fun h=>?_)<;>(try (cases h;done))<;>(try simp only [h]))|refine Pwp.ret ?_|(refine hK _ ?_;clear hK K)|(refine hK _ _ rfl ?_;clear hK K)|refine CallG.off ?_|with_reducible refine Or.inl ?_|simp only [thenS,blockS]|with_reducible refine And.intro ?_ ?_|with_reducible exact True.intro|simp (dsimp:=false) only [↓gq,↓stepP,↓stepG,go_sem,hla,hlb,hne,w1])
  all_goals (try (first|(intro hg;simp_all;done)|(intro hg;simp [hg];done)|exact of_decide_eq_true rfl|(cases h;done)))
  refine Pwp.loop (fun k s => ∃ n, n ≤ a.length ∧ k = n ∧ s = L162 a b n ∧ a.drop n = b.drop n) a.length (s := L162 a b a.length) (Sub.same (by simp [L162]) ?_ ?_) ⟨a.length, Nat.le_refl _, rfl, rfl, by rw [List.drop_eq_nil_of_le (Nat.le_refl _), List.drop_eq_nil_of_le (by omega)]⟩ ?_
  · simp [viewH, L162]
  · simp [viewT, viewP, L162, V0, keptOf, St.ev, find, PVal.toD, subD_refl, disj, PVal.ids]
  rintro k s ⟨n, hn, rfl, rfl, hd⟩
  unfold L162
  cases k with
  | zero =>
    have hv : lessB a b = false := by unfold lessB; rw [if_pos hab]; simp only [List.drop_zero] at hd; rw [hd]; simp
    repeat' (first|((first|refine goA rfl fun K hK=>?_|refine goB rfl fun K hK=>?_|refine goC rfl rfl fun K hK=>?_|refine goD rfl rfl fun K hK=>?_);simp (dsimp:=false) only [↓gq,↓stepP,↓stepG,go_sem,hla,hlb])|refine Pwp.seq ?_|refine Pwp.block ?_|(refine Pwp.exit ?_;simp only [thenS,blockS,if_true,if_false,reduceIte,Nat.reduceEqDiff,Nat.add_one_ne_zero,reduceCtorEq])|(refine Pwp.skip ?_;simp only [thenS,blockS])|(refine Pwp.cond rfl True.intro (fun h=>?_) (fun h=>?_)<;>(try (cases h;done))<;>(try simp only [h]))|refine Pwp.ret ?_|(refine hK _ ?_;clear hK K)|(refine hK _ _ rfl ?_;clear hK K)|refine CallG.off ?_|with_reducible refine Or.inl ?_|simp only [thenS,blockS]|with_reducible refine And.intro ?_ ?_|with_reducible exact True.intro|simp (dsimp:=false) only [↓gq,↓stepP,↓stepG,go_sem,hla,hlb])
    all_goals (try (first|(intro hg;simp_all;done)|(intro hg;simp [hg];done)|exact of_decide_eq_true rfl|(cases h;done)))
    rw [hv]
    exact Fin.data (.inr rfl) rfl ⟨True.intro, True.intro⟩ rfl (subD_refl _)
  | succ n =>
    obtain ⟨d, hd1⟩ : ∃ d, a[n]? = some d := ⟨_, List.getElem?_eq_getElem (by omega)⟩
    obtain ⟨e, he1⟩ : ∃ e, b[n]? = some e := ⟨_, List.getElem?_eq_getElem (by omega)⟩
    have hg := dig_get hd1
    have hg2 := dig_get he1
    have hw : ((n + 1 : Nat) : Int) - 1 = (n : Int) := by omega
    have hw2 : IntKind.i64.wrap ((n : Int) - 1) = (n : Int) - 1 := wrap_of (by omega) (by omega)
    by_cases h0 : d = e
    · subst h0
      have hx : ((d : Int) != (d : Int)) = false := by simp
      repeat' (first|((first|refine goA rfl fun K hK=>?_|refine goB rfl fun K hK=>?_|refine goC rfl rfl fun K hK=>?_|refine goD rfl rfl fun K hK=>?_);simp (dsimp:=false) only [↓gq,↓stepP,↓stepG,go_sem,hw,hw2,hx,hg,hg2,hla,hlb])|refine Pwp.seq ?_|refine Pwp.block ?_|(refine Pwp.exit ?_;simp only [thenS,blockS,if_true,if_false,reduceIte,Nat.reduceEqDiff,Nat.add_one_ne_zero,reduceCtorEq])|(refine Pwp.skip ?_;simp only [thenS,blockS])|(refine Pwp.cond rfl True.intro (fun h=>?_) (fun h=>?_)<;>(try (cases h;done))<;>(try simp only [h]))|refine Pwp.ret ?_|(refine hK _ ?_;clear hK K)|(refine hK _ _ rfl ?_;clear hK K)|refine CallG.off ?_|with_reducible refine Or.inl ?_|simp only [thenS,blockS]|with_reducible refine And.intro ?_ ?_|with_reducible exact True.intro|simp (dsimp:=false) only [↓gq,↓stepP,↓stepG,go_sem,hw,hw2,hx,hg,hg2,hla,hlb])
      all_goals (try (first|(intro hg;simp_all;done)|(intro hg;simp [hg];done)|exact of_decide_eq_true rfl|(cases h;done)))
      refine ⟨n, L162 a b n, by omega, Sub.same (by simp [L162]) ?_ ?_, n, by omega, rfl, rfl, ?_⟩
      · simp [viewH, L162]
      · simp [viewT, viewP, L162, V0, keptOf, St.ev, find, PVal.toD, subD_refl, disj, PVal.ids]
      · obtain ⟨g1, g2⟩ := List.getElem?_eq_some_iff.1 hd1
        obtain ⟨g3, g4⟩ := List.getElem?_eq_some_iff.1 he1
        rw [List.drop_eq_getElem_cons g1, List.drop_eq_getElem_cons g3, hd, g2, g4]
    · have hx : ((d : Int) != (e : Int)) = true := by simp; omega
      repeat' (first|((first|refine goA rfl fun K hK=>?_|refine goB rfl fun K hK=>?_|refine goC rfl rfl fun K hK=>?_|refine goD rfl rfl fun K hK=>?_);simp (dsimp:=false) only [↓gq,↓stepP,↓stepG,go_sem,hw,hw2,hx,hg,hg2,hla,hlb])|refine Pwp.seq ?_|refine Pwp.block ?_|(refine Pwp.exit ?_;simp only [thenS,blockS,if_true,if_false,reduceIte,Nat.reduceEqDiff,Nat.add_one_ne_zero,reduceCtorEq])|(refine Pwp.skip ?_;simp only [thenS,blockS])|(refine Pwp.cond rfl True.intro (fun h=>?_) (fun h=>?_)<;>(try (cases h;done))<;>(try simp only [h]))|refine Pwp.ret ?_|(refine hK _ ?_;clear hK K)|(refine hK _ _ rfl ?_;clear hK K)|refine CallG.off ?_|with_reducible refine Or.inl ?_|simp only [thenS,blockS]|with_reducible refine And.intro ?_ ?_|with_reducible exact True.intro|simp (dsimp:=false) only [↓gq,↓stepP,↓stepG,go_sem,hw,hw2,hx,hg,hg2,hla,hlb])
      all_goals (try (first|(intro hg;simp_all;done)|(intro hg;simp [hg];done)|exact of_decide_eq_true rfl|(cases h;done)))
      have hv : lessB a b = decide ((d : Int) < (e : Int)) := by
        obtain ⟨g1, g2⟩ := List.getElem?_eq_some_iff.1 hd1
        obtain ⟨g3, g4⟩ := List.getElem?_eq_some_iff.1 he1
        unfold lessB
        rw [if_pos hab]
        rcases Nat.lt_or_ge d e with h5 | h5
        · have := less_at ha g1 g3 hd (by omega)
          rw [decide_eq_true this, decide_eq_true (by omega)]
        · have := less_at hb g3 g1 hd.symm (by omega)
          rw [decide_eq_false (by omega), decide_eq_false (by omega)]
      rw [hv]
      exact Fin.data (.inr rfl) rfl ⟨True.intro, True.intro⟩ rfl (subD_refl _)
end Go.Proofs.Ytdodgbhodkcckaa.Pv
end
section
set_option linter.unusedVariables false
set_option linter.unusedSimpArgs false
set_option autoImplicit false
set_option maxRecDepth 100000
namespace Go.Proofs.Ytdodgbhodkcckaa.Pv
open Go Go.RowKit Dig
def L163 (a b out : List Nat) (i c : Nat) : St := ⟨[(7, pint .i64 i), (6, pint .i64 c), (5, .own 9 0 1 0 out.length), (0, .d (.slc 1 (digD a))), (1, .d (.slc 1 (digD b)))], [(9, .arr 3 1 0 none (digD out))], 40⟩
set_option maxHeartbeats 8000000 in
theorem run163 (a b : List Nat) (ha : Small a) (hb : Small b) (hl : a.length ≤ 1000000) (hk : b.length ≤ 1000000) : Runs Try.prog 163 [.d (.slc 1 (digD a)), .d (.slc 1 (digD b))] [] (.d (.slc 1 (digD (digs (val (Dig.subL a b 0)))))) [] := by
  have hla := dig_len a
  have hlb := dig_len b
  refine Runs.of (kit Try.prog) Try.func163 rfl rfl (by rw [Try.ntmps163]; exact of_decide_eq_true rfl) ?_; rw [Try.ntmps163, Try.results163]
  repeat' (first|((first|refine goA rfl fun K hK=>?_|refine goB rfl fun K hK=>?_|refine goC rfl rfl fun K hK=>?_|refine goD rfl rfl fun K hK=>?_);simp (dsimp:=false) only [↓gq,↓stepP,↓stepG,go_sem])|refine Pwp.seq ?_|refine Pwp.block ?_|(refine Pwp.exit ?_;simp only [thenS,blockS,if_true,if_false,reduceIte,Nat.reduceEqDiff,Nat.add_one_ne_zero,reduceCtorEq])|(refine Pwp.skip ?_;simp only [thenS,blockS])|(refine Pwp.cond rfl True.intro (fun h=>?_) (fun h=>?_)<;>(try (cases h;done))<;>(try simp only [h]))|refine Pwp.ret ?_|(refine hK _ ?_;clear hK K)|(refine hK _ _ rfl ?_;clear hK K)|refine CallG.off ?_|with_reducible refine Or.inl ?_|simp only [thenS,blockS]|with_reducible refine And.intro ?_ ?_|with_reducible exact True.intro|simp (dsimp:=false) only [↓gq,↓stepP,↓stepG,go_sem])
  all_goals (try (first|(intro hg;simp_all;done)|(intro hg;simp [hg];done)|exact of_decide_eq_true rfl|(cases h;done)))
  refine Pwp.loop (fun k s => ∃ i c out, k = a.length - i ∧ i ≤ a.length ∧ c ≤ 1 ∧ out.length = i ∧ out ++ Dig.subL (a.drop i) (b.drop i) c = Dig.subL a b 0 ∧ s = L163 a b out i c) a.length (s := L163 a b [] 0 0) (Sub.view V9n (by simp [L163]) rfl ?_ ?_) ⟨0, 0, [], by omega, by omega, by omega, rfl, rfl, rfl⟩ ?_
  · simp [viewH, viewP, viewL, viewO, L163, V9n, keptOf, find, digD]
  · simp [viewT, viewP, L163, V9n, keptOf, St.ev, find, PVal.toD, subD_refl, disj, PVal.ids, pnil]
  rintro k s ⟨i, c, out, rfl, hi, hc, ho, hsub, rfl⟩
  unfold L163
  have hol := dig_len out
  have htk : (digD out).take out.length = digD out := List.take_of_length_le (by omega)
  rcases Nat.lt_or_ge i a.length with h1 | h1
  rotate_left
  · have hc1 : decide ((i : Int) < (a.length : Int)) = false := decide_eq_false (by omega)
    have he : Dig.subL a b 0 = out := by rw [← hsub, List.drop_eq_nil_of_le h1]; simp [Dig.subL]
    have hsm := small_subL ha hb (by omega : 0 ≤ 1)
    rw [he] at hsm ⊢
    have hr := run160 out (by omega)
    rw [trim_eq hsm] at hr
    repeat' (first|((first|refine goA rfl fun K hK=>?_|refine goB rfl fun K hK=>?_|refine goC rfl rfl fun K hK=>?_|refine goD rfl rfl fun K hK=>?_);simp (dsimp:=false) only [↓gq,↓stepP,↓stepG,go_sem,hc1,hla])|refine Pwp.seq ?_|refine Pwp.block ?_|(refine Pwp.exit ?_;simp only [thenS,blockS,if_true,if_false,reduceIte,Nat.reduceEqDiff,Nat.add_one_ne_zero,reduceCtorEq])|(refine Pwp.skip ?_;simp only [thenS,blockS])|(refine Pwp.cond rfl True.intro (fun h=>?_) (fun h=>?_)<;>(try (cases h;done))<;>(try simp only [h]))|refine Pwp.ret ?_|(refine hK _ ?_;clear hK K)|(refine hK _ _ rfl ?_;clear hK K)|(refine CallK.give (ds:=[.slc 1 (digD out)]) (by simp [toDL, PVal.toD, find, hol, htk]) hr (by simp) ?_)|refine CallG.off ?_|with_reducible refine Or.inl ?_|simp only [thenS,blockS]|with_reducible refine And.intro ?_ ?_|with_reducible exact True.intro|simp (dsimp:=false) only [↓gq,↓stepP,↓stepG,go_sem,hc1,hla])
    all_goals (try (first|(intro hg;simp_all;done)|(intro hg;simp [hg];done)|exact of_decide_eq_true rfl|(cases h;done)))
    (refine Fin.data (.inr rfl) (by simp (dsimp:=false) only [↓gq,↓stepP,↓stepG,go_sem,resL]; rfl) (by simp only [and_self]) (by simp (dsimp:=false) only [↓gq,↓stepP,↓stepG,go_sem,resP,Nat.le_refl,List.take_length]; try rfl) ?_)
    exact subD_refl _
  obtain ⟨d, hd⟩ : ∃ d, a[i]? = some d := ⟨_, List.getElem?_eq_getElem h1⟩
  have hd1 := ha d (List.mem_of_getElem? hd)
  have hg := dig_get hd
  have hc1 : decide ((i : Int) < (a.length : Int)) = true := decide_eq_true (by omega)
  have s1 : IntKind.i64.wrap ((d : Int) - (c : Int)) = (d : Int) - (c : Int) := wrap_of (by omega) (by omega)
  rcases Nat.lt_or_ge i b.length with h2 | h2
  · rcases Nat.lt_or_ge d ((b[i]?.getD 0) + c) with h3 | h3 <;> simp only [List.getElem?_eq_getElem h2, Option.getD_some] at h3
    · obtain ⟨e, he⟩ : ∃ e, b[i]? = some e := ⟨_, List.getElem?_eq_getElem h2⟩
      have hbe : b[i] = e := (List.getElem?_eq_some_iff.1 he).2
      rw [hbe] at h3
      have he1 := hb e (List.mem_of_getElem? he)
      have hg2 := dig_get he
      have c2 : decide ((i : Int) < (b.length : Int)) = true := decide_eq_true (by omega)
      have s2 : IntKind.i64.wrap ((d : Int) - (c : Int) - (e : Int)) = (d : Int) - (c : Int) - (e : Int) := wrap_of (by omega) (by omega)
      have n1 : decide ((d : Int) - (c : Int) - (e : Int) < 0) = true := decide_eq_true (by omega)
      have n2 : IntKind.i64.wrap ((d : Int) - (c : Int) - (e : Int) + 10) = ((d + 10 - e - c : Nat) : Int) := by rw [wrap_of (by omega) (by omega)]; omega
      repeat' (first|((first|refine goA rfl fun K hK=>?_|refine goB rfl fun K hK=>?_|refine goC rfl rfl fun K hK=>?_|refine goD rfl rfl fun K hK=>?_);simp (dsimp:=false) only [↓gq,↓stepP,↓stepG,go_sem,hg,hc1,s1,c2,n1,hla,hlb,htk,hol,hg2,s2,n2])|refine Pwp.seq ?_|refine Pwp.block ?_|(refine Pwp.exit ?_;simp only [thenS,blockS,if_true,if_false,reduceIte,Nat.reduceEqDiff,Nat.add_one_ne_zero,reduceCtorEq])|(refine Pwp.skip ?_;simp only [thenS,blockS])|(refine Pwp.cond rfl True.intro (fun h=>?_) (fun h=>?_)<;>(try (cases h;done))<;>(try simp only [h]))|refine Pwp.ret ?_|(refine hK _ ?_;clear hK K)|(refine hK _ _ rfl ?_;clear hK K)|refine CallG.off ?_|with_reducible refine Or.inl ?_|simp only [thenS,blockS]|with_reducible refine And.intro ?_ ?_|with_reducible exact True.intro|simp (dsimp:=false) only [↓gq,↓stepP,↓stepG,go_sem,hg,hc1,s1,c2,n1,hla,hlb,htk,hol,hg2,s2,n2])
      all_goals (try (first|(intro hg;simp_all;done)|(intro hg;simp [hg];done)|exact of_decide_eq_true rfl|(cases h;done)))
      all_goals (try (first | omega | (simp [maxLen]; omega)))
      refine ⟨a.length - (i + 1), L163 a b (out ++ [d + 10 - e - c]) (i + 1) 1, by omega, Sub.view (V9 1) (by simp [L163]) rfl ?_ ?_, i + 1, 1, out ++ [d + 10 - e - c], rfl, by omega, by omega, by simp [ho], ?_, rfl⟩
      · simp [viewH, viewP, viewL, viewO, L163, V9, keptOf, find, digD]
      · rw [wrap_succ (by omega)]
        simp [viewT, viewP, L163, V9, keptOf, St.ev, find, PVal.toD, subD_refl, disj, PVal.ids]
      · rw [← hsub, sub_step a b i c d e hd (by simp [he]), if_pos (by omega)]; simp
    · obtain ⟨e, he⟩ : ∃ e, b[i]? = some e := ⟨_, List.getElem?_eq_getElem h2⟩
      have hbe : b[i] = e := (List.getElem?_eq_some_iff.1 he).2
      rw [hbe] at h3
      have he1 := hb e (List.mem_of_getElem? he)
      have hg2 := dig_get he
      have c2 : decide ((i : Int) < (b.length : Int)) = true := decide_eq_true (by omega)
      have s2 : IntKind.i64.wrap ((d : Int) - (c : Int) - (e : Int)) = (d : Int) - (c : Int) - (e : Int) := wrap_of (by omega) (by omega)
      have n1 : decide ((d : Int) - (c : Int) - (e : Int) < 0) = false := decide_eq_false (by omega)
      have n2 : (d : Int) - (c : Int) - (e : Int) = ((d - e - c : Nat) : Int) := by omega
      repeat' (first|((first|refine goA rfl fun K hK=>?_|refine goB rfl fun K hK=>?_|refine goC rfl rfl fun K hK=>?_|refine goD rfl rfl fun K hK=>?_);simp (dsimp:=false) only [↓gq,↓stepP,↓stepG,go_sem,hg,hc1,s1,c2,n1,hla,hlb,htk,hol,hg2,s2])|refine Pwp.seq ?_|refine Pwp.block ?_|(refine Pwp.exit ?_;simp only [thenS,blockS,if_true,if_false,reduceIte,Nat.reduceEqDiff,Nat.add_one_ne_zero,reduceCtorEq])|(refine Pwp.skip ?_;simp only [thenS,blockS])|(refine Pwp.cond rfl True.intro (fun h=>?_) (fun h=>?_)<;>(try (cases h;done))<;>(try simp only [h]))|refine Pwp.ret ?_|(refine hK _ ?_;clear hK K)|(refine hK _ _ rfl ?_;clear hK K)|refine CallG.off ?_|with_reducible refine Or.inl ?_|simp only [thenS,blockS]|with_reducible refine And.intro ?_ ?_|with_reducible exact True.intro|simp (dsimp:=false) only [↓gq,↓stepP,↓stepG,go_sem,hg,hc1,s1,c2,n1,hla,hlb,htk,hol,hg2,s2])
      all_goals (try (first|(intro hg;simp_all;done)|(intro hg;simp [hg];done)|exact of_decide_eq_true rfl|(cases h;done)))
      all_goals (try (first | omega | (simp [maxLen]; omega)))
      refine ⟨a.length - (i + 1), L163 a b (out ++ [d - e - c]) (i + 1) 0, by omega, Sub.view (V9 1) (by simp [L163]) rfl ?_ ?_, i + 1, 0, out ++ [d - e - c], rfl, by omega, by omega, by simp [ho], ?_, rfl⟩
      · simp [viewH, viewP, viewL, viewO, L163, V9, keptOf, find, digD, n2]
      · rw [wrap_succ (by omega)]
        simp [viewT, viewP, L163, V9, keptOf, St.ev, find, PVal.toD, subD_refl, disj, PVal.ids]
      · rw [← hsub, sub_step a b i c d e hd (by simp [he]), if_neg (by omega)]; simp
  · rcases Nat.lt_or_ge d c with h3 | h3
    · have he : b[i]? = none := List.getElem?_eq_none h2
      have c2 : decide ((i : Int) < (b.length : Int)) = false := decide_eq_false (by omega)
      have n1 : decide ((d : Int) - (c : Int) < 0) = true := decide_eq_true (by omega)
      have n2 : IntKind.i64.wrap ((d : Int) - (c : Int) + 10) = ((d + 10 - 0 - c : Nat) : Int) := by rw [wrap_of (by omega) (by omega)]; omega
      repeat' (first|((first|refine goA rfl fun K hK=>?_|refine goB rfl fun K hK=>?_|refine goC rfl rfl fun K hK=>?_|refine goD rfl rfl fun K hK=>?_);simp (dsimp:=false) only [↓gq,↓stepP,↓stepG,go_sem,hg,hc1,s1,c2,n1,hla,hlb,htk,hol,n2])|refine Pwp.seq ?_|refine Pwp.block ?_|(refine Pwp.exit ?_;simp only [thenS,blockS,if_true,if_false,reduceIte,Nat.reduceEqDiff,Nat.add_one_ne_zero,reduceCtorEq])|(refine Pwp.skip ?_;simp only [thenS,blockS])|(refine Pwp.cond rfl True.intro (fun h=>?_) (fun h=>?_)<;>(try (cases h;done))<;>(try simp only [h]))|refine Pwp.ret ?_|(refine hK _ ?_;clear hK K)|(refine hK _ _ rfl ?_;clear hK K)|refine CallG.off ?_|with_reducible refine Or.inl ?_|simp only [thenS,blockS]|with_reducible refine And.intro ?_ ?_|with_reducible exact True.intro|simp (dsimp:=false) only [↓gq,↓stepP,↓stepG,go_sem,hg,hc1,s1,c2,n1,hla,hlb,htk,hol,n2])
      all_goals (try (first|(intro hg;simp_all;done)|(intro hg;simp [hg];done)|exact of_decide_eq_true rfl|(cases h;done)))
      all_goals (try (first | omega | (simp [maxLen]; omega)))
      refine ⟨a.length - (i + 1), L163 a b (out ++ [d + 10 - 0 - c]) (i + 1) 1, by omega, Sub.view (V9 1) (by simp [L163]) rfl ?_ ?_, i + 1, 1, out ++ [d + 10 - 0 - c], rfl, by omega, by omega, by simp [ho], ?_, rfl⟩
      · simp [viewH, viewP, viewL, viewO, L163, V9, keptOf, find, digD]
      · rw [wrap_succ (by omega)]
        simp [viewT, viewP, L163, V9, keptOf, St.ev, find, PVal.toD, subD_refl, disj, PVal.ids]
      · rw [← hsub, sub_step a b i c d 0 hd (by simp [he]), if_pos (by omega)]; simp
    · have he : b[i]? = none := List.getElem?_eq_none h2
      have c2 : decide ((i : Int) < (b.length : Int)) = false := decide_eq_false (by omega)
      have n1 : decide ((d : Int) - (c : Int) < 0) = false := decide_eq_false (by omega)
      have n2 : (d : Int) - (c : Int) = ((d - 0 - c : Nat) : Int) := by omega
      repeat' (first|((first|refine goA rfl fun K hK=>?_|refine goB rfl fun K hK=>?_|refine goC rfl rfl fun K hK=>?_|refine goD rfl rfl fun K hK=>?_);simp (dsimp:=false) only [↓gq,↓stepP,↓stepG,go_sem,hg,hc1,s1,c2,n1,hla,hlb,htk,hol])|refine Pwp.seq ?_|refine Pwp.block ?_|(refine Pwp.exit ?_;simp only [thenS,blockS,if_true,if_false,reduceIte,Nat.reduceEqDiff,Nat.add_one_ne_zero,reduceCtorEq])|(refine Pwp.skip ?_;simp only [thenS,blockS])|(refine Pwp.cond rfl True.intro (fun h=>?_) (fun h=>?_)<;>(try (cases h;done))<;>(try simp only [h]))|refine Pwp.ret ?_|(refine hK _ ?_;clear hK K)|(refine hK _ _ rfl ?_;clear hK K)|refine CallG.off ?_|with_reducible refine Or.inl ?_|simp only [thenS,blockS]|with_reducible refine And.intro ?_ ?_|with_reducible exact True.intro|simp (dsimp:=false) only [↓gq,↓stepP,↓stepG,go_sem,hg,hc1,s1,c2,n1,hla,hlb,htk,hol])
      all_goals (try (first|(intro hg;simp_all;done)|(intro hg;simp [hg];done)|exact of_decide_eq_true rfl|(cases h;done)))
      all_goals (try (first | omega | (simp [maxLen]; omega)))
      refine ⟨a.length - (i + 1), L163 a b (out ++ [d - 0 - c]) (i + 1) 0, by omega, Sub.view (V9 1) (by simp [L163]) rfl ?_ ?_, i + 1, 0, out ++ [d - 0 - c], rfl, by omega, by omega, by simp [ho], ?_, rfl⟩
      · simp [viewH, viewP, viewL, viewO, L163, V9, keptOf, find, digD, n2]
      · rw [wrap_succ (by omega)]
        simp [viewT, viewP, L163, V9, keptOf, St.ev, find, PVal.toD, subD_refl, disj, PVal.ids]
      · rw [← hsub, sub_step a b i c d 0 hd (by simp [he]), if_neg (by omega)]; simp
end Go.Proofs.Ytdodgbhodkcckaa.Pv
end
section
set_option linter.unusedVariables false
set_option linter.unusedSimpArgs false
set_option autoImplicit false
set_option maxRecDepth 100000
namespace Go.Proofs.Ytdodgbhodkcckaa.Pv
open Go Go.RowKit Dig
def bigD (z : Int) : D := .agg [.v (.bool (decide (z < 0))), .slc 1 (digD (digs z.natAbs))]
def L103 (a x : Int) (out : List Nat) : St := ⟨[(0, pint .i64 x), (3, .ref 15 0), (2, .ref 8 0)], [(8, .box [.d (.v (.bool false)), .d (.v (.slice none 0 0))]), (15, .box [.d (.v (.bool (decide (a < 0)))), .own 9 0 1 0 out.length]), (9, .arr 3 1 0 none (digD out))], 40⟩
theorem quoP {m : Nat} (h : m < 9223372036854775808) : IntKind.i64.wrap (Int.tdiv (m : Int) 10) = ((m / 10 : Nat) : Int) := by
  rw [Int.tdiv_eq_ediv_of_nonneg (by omega), wrap_of (by omega) (by omega)]; omega
theorem quoN {m : Nat} (h : m ≤ 9223372036854775808) : IntKind.i64.wrap (Int.tdiv (-(m : Int)) 10) = -((m / 10 : Nat) : Int) := by
  rw [Int.neg_tdiv, Int.tdiv_eq_ediv_of_nonneg (by omega), wrap_of (by omega) (by omega)]; omega
theorem remN {m : Nat} : Int.tmod (-(m : Int)) 10 = -((m % 10 : Nat) : Int) := by
  rw [Int.neg_tmod, Int.tmod_eq_emod_of_nonneg (by omega)]; omega
theorem end103 {a x x' : Int} {out : List Nat} {d : Nat} {s : St} (hadd : out ++ digs x.natAbs = digs a.natAbs) (ha : In64 a) (hx : x.natAbs ≠ 0) (hd : d = x.natAbs % 10) (hx' : x'.natAbs = x.natAbs / 10) (hin : In64 x') (hs : Sub 25 s (L103 a x' (out ++ [d]))) :
    ∃ k' t, k' < x.natAbs ∧ Sub 25 s t ∧ ∃ x out, k' = x.natAbs ∧ In64 x ∧ out.length ≤ 100 ∧ out ++ digs x.natAbs = digs a.natAbs ∧ t = L103 a x out := by
  have e : (out ++ [d]) ++ digs x'.natAbs = digs a.natAbs := by
    rw [← hadd, digs_pos hx, hx', hd]; simp
  refine ⟨x'.natAbs, _, by omega, hs, x', out ++ [d], rfl, hin, ?_, e, rfl⟩
  have h1 := congrArg List.length e
  obtain ⟨ha1, ha2⟩ := ha
  have h2 : (digs a.natAbs).length ≤ 20 := digs_length_le (by omega)
  simp only [List.length_append] at h1 ⊢
  omega
set_option maxHeartbeats 8000000 in
theorem run103 (a : Int) (ha : In64 a) : Runs Try.prog 103 [pint .i64 a] [] (.d (bigD a)) [] := by
  refine Runs.of (kit Try.prog) Try.func103 rfl rfl (by rw [Try.ntmps103]; exact of_decide_eq_true rfl) ?_; rw [Try.ntmps103, Try.results103]
  repeat' (first|((first|refine goA rfl fun K hK=>?_|refine goB rfl fun K hK=>?_|refine goC rfl rfl fun K hK=>?_|refine goD rfl rfl fun K hK=>?_);simp (dsimp:=false) only [↓gq,↓stepP,↓stepG,go_sem])|refine Pwp.seq ?_|refine Pwp.block ?_|(refine Pwp.exit ?_;simp only [thenS,blockS,if_true,if_false,reduceIte,Nat.reduceEqDiff,Nat.add_one_ne_zero,reduceCtorEq])|(refine Pwp.skip ?_;simp only [thenS,blockS])|(refine Pwp.cond rfl True.intro (fun h=>?_) (fun h=>?_)<;>(try (cases h;done))<;>(try simp only [h]))|refine Pwp.ret ?_|(refine hK _ ?_;clear hK K)|(refine hK _ _ rfl ?_;clear hK K)|refine CallG.off ?_|with_reducible refine Or.inl ?_|simp only [thenS,blockS]|with_reducible refine And.intro ?_ ?_|with_reducible exact True.intro|simp (dsimp:=false) only [↓gq,↓stepP,↓stepG,go_sem])
  all_goals (try (first|(intro hg;simp_all;done)|(intro hg;simp [hg];done)|exact of_decide_eq_true rfl|(cases h;done)))
  refine Pwp.loop (fun k s => ∃ x out, k = x.natAbs ∧ In64 x ∧ out.length ≤ 100 ∧ out ++ digs x.natAbs = digs a.natAbs ∧ s = L103 a x out) a.natAbs (s := L103 a a []) (Sub.view V9n (by simp [L103]) rfl ?_ ?_) ⟨a, [], rfl, ha, by simp, rfl, rfl⟩ ?_
  · simp [viewH, viewP, viewL, viewO, L103, V9n, keptOf, find, digD, PVal.toD, subD_refl, disj, PVal.ids, pnil]
  · simp [viewT, viewP, L103, V9n, keptOf, St.ev, find, PVal.toD, subD_refl, disj, PVal.ids, pnil]
  rintro k s ⟨x, out, rfl, hx, hol0, hadd, rfl⟩
  unfold L103
  have hol := dig_len out
  have htk : (digD out).take out.length = digD out := List.take_of_length_le (by omega)
  obtain ⟨hx1, hx2⟩ := hx
  rcases Int.lt_trichotomy x 0 with h | h | h
  · obtain ⟨m, rfl⟩ : ∃ m : Nat, x = -(m : Int) := ⟨x.natAbs, by omega⟩
    have hc : (-(m : Int) != 0) = true := by simp; omega
    have q := quoN (m := m) (by omega)
    have r := remN (m := m)
    have s1 : IntKind.i64.wrap (0 - -((m % 10 : Nat) : Int)) = ((m % 10 : Nat) : Int) := by rw [wrap_of (by omega) (by omega)]; omega
    by_cases h0 : m % 10 = 0
    · have c1 : decide (-((m % 10 : Nat) : Int) < 0) = false := decide_eq_false (by omega)
      repeat' (first|((first|refine goA rfl fun K hK=>?_|refine goB rfl fun K hK=>?_|refine goC rfl rfl fun K hK=>?_|refine goD rfl rfl fun K hK=>?_);simp (dsimp:=false) only [↓gq,↓stepP,↓stepG,go_sem,hc,q,r,s1,c1,htk,hol])|refine Pwp.seq ?_|refine Pwp.block ?_|(refine Pwp.exit ?_;simp only [thenS,blockS,if_true,if_false,reduceIte,Nat.reduceEqDiff,Nat.add_one_ne_zero,reduceCtorEq])|(refine Pwp.skip ?_;simp only [thenS,blockS])|(refine Pwp.cond rfl True.intro (fun h=>?_) (fun h=>?_)<;>(try (cases h;done))<;>(try simp only [h]))|refine Pwp.ret ?_|(refine hK _ ?_;clear hK K)|(refine hK _ _ rfl ?_;clear hK K)|refine CallG.off ?_|with_reducible refine Or.inl ?_|simp only [thenS,blockS]|with_reducible refine And.intro ?_ ?_|with_reducible exact True.intro|simp (dsimp:=false) only [↓gq,↓stepP,↓stepG,go_sem,hc,q,r,s1,c1,htk,hol])
      all_goals (try (first|(intro hg;simp_all;done)|(intro hg;simp [hg];done)|exact of_decide_eq_true rfl|(cases h;done)))
      all_goals (try (first | omega | (simp [maxLen]; omega)))
      refine end103 (x' := -((m / 10 : Nat) : Int)) (d := m % 10) hadd ha (by omega) (by omega) (by omega) ⟨by omega, by omega⟩ (Sub.view (V9 1) (by simp [L103]) rfl ?_ ?_)
      · simp [viewH, viewP, viewL, viewO, L103, V9, keptOf, find, digD, PVal.toD, subD_refl, disj, PVal.ids, h0]
      · simp [viewT, viewP, L103, V9, keptOf, St.ev, find, PVal.toD, subD_refl, disj, PVal.ids]
    · have c1 : decide (-((m % 10 : Nat) : Int) < 0) = true := decide_eq_true (by omega)
      repeat' (first|((first|refine goA rfl fun K hK=>?_|refine goB rfl fun K hK=>?_|refine goC rfl rfl fun K hK=>?_|refine goD rfl rfl fun K hK=>?_);simp (dsimp:=false) only [↓gq,↓stepP,↓stepG,go_sem,hc,q,r,s1,c1,htk,hol])|refine Pwp.seq ?_|refine Pwp.block ?_|(refine Pwp.exit ?_;simp only [thenS,blockS,if_true,if_false,reduceIte,Nat.reduceEqDiff,Nat.add_one_ne_zero,reduceCtorEq])|(refine Pwp.skip ?_;simp only [thenS,blockS])|(refine Pwp.cond rfl True.intro (fun h=>?_) (fun h=>?_)<;>(try (cases h;done))<;>(try simp only [h]))|refine Pwp.ret ?_|(refine hK _ ?_;clear hK K)|(refine hK _ _ rfl ?_;clear hK K)|refine CallG.off ?_|with_reducible refine Or.inl ?_|simp only [thenS,blockS]|with_reducible refine And.intro ?_ ?_|with_reducible exact True.intro|simp (dsimp:=false) only [↓gq,↓stepP,↓stepG,go_sem,hc,q,r,s1,c1,htk,hol])
      all_goals (try (first|(intro hg;simp_all;done)|(intro hg;simp [hg];done)|exact of_decide_eq_true rfl|(cases h;done)))
      all_goals (try (first | omega | (simp [maxLen]; omega)))
      refine end103 (x' := -((m / 10 : Nat) : Int)) (d := m % 10) hadd ha (by omega) (by omega) (by omega) ⟨by omega, by omega⟩ (Sub.view (V9 1) (by simp [L103]) rfl ?_ ?_)
      · simp [viewH, viewP, viewL, viewO, L103, V9, keptOf, find, digD, PVal.toD, subD_refl, disj, PVal.ids]
      · simp [viewT, viewP, L103, V9, keptOf, St.ev, find, PVal.toD, subD_refl, disj, PVal.ids]
  · subst h
    have hc : ((0 : Int) != 0) = false := by simp
    repeat' (first|((first|refine goA rfl fun K hK=>?_|refine goB rfl fun K hK=>?_|refine goC rfl rfl fun K hK=>?_|refine goD rfl rfl fun K hK=>?_);simp (dsimp:=false) only [↓gq,↓stepP,↓stepG,go_sem,hc])|refine Pwp.seq ?_|refine Pwp.block ?_|(refine Pwp.exit ?_;simp only [thenS,blockS,if_true,if_false,reduceIte,Nat.reduceEqDiff,Nat.add_one_ne_zero,reduceCtorEq])|(refine Pwp.skip ?_;simp only [thenS,blockS])|(refine Pwp.cond rfl True.intro (fun h=>?_) (fun h=>?_)<;>(try (cases h;done))<;>(try simp only [h]))|refine Pwp.ret ?_|(refine hK _ ?_;clear hK K)|(refine hK _ _ rfl ?_;clear hK K)|refine CallG.off ?_|with_reducible refine Or.inl ?_|simp only [thenS,blockS]|with_reducible refine And.intro ?_ ?_|with_reducible exact True.intro|simp (dsimp:=false) only [↓gq,↓stepP,↓stepG,go_sem,hc])
    all_goals (try (first|(intro hg;simp_all;done)|(intro hg;simp [hg];done)|exact of_decide_eq_true rfl|(cases h;done)))
    have he : out = digs a.natAbs := by rw [← hadd]; simp [digs_zero]
    subst he
    (refine Fin.data (.inr rfl) (by simp (dsimp:=false) only [↓gq,↓stepP,↓stepG,go_sem,resL,htk,hol]; rfl) (by simp only [and_self]) (by simp (dsimp:=false) only [↓gq,↓stepP,↓stepG,go_sem,resP,Nat.le_refl,List.take_length,htk,hol]; try rfl) ?_)
    exact subD_refl _
  · obtain ⟨m, rfl⟩ : ∃ m : Nat, x = (m : Int) := ⟨x.natAbs, by omega⟩
    have hc : ((m : Int) != 0) = true := by simp; omega
    have q := quoP (m := m) (by omega)
    have r := rem10 (m := m)
    have c1 : decide (((m % 10 : Nat) : Int) < 0) = false := decide_eq_false (by omega)
    repeat' (first|((first|refine goA rfl fun K hK=>?_|refine goB rfl fun K hK=>?_|refine goC rfl rfl fun K hK=>?_|refine goD rfl rfl fun K hK=>?_);simp (dsimp:=false) only [↓gq,↓stepP,↓stepG,go_sem,hc,q,r,c1,htk,hol])|refine Pwp.seq ?_|refine Pwp.block ?_|(refine Pwp.exit ?_;simp only [thenS,blockS,if_true,if_false,reduceIte,Nat.reduceEqDiff,Nat.add_one_ne_zero,reduceCtorEq])|(refine Pwp.skip ?_;simp only [thenS,blockS])|(refine Pwp.cond rfl True.intro (fun h=>?_) (fun h=>?_)<;>(try (cases h;done))<;>(try simp only [h]))|refine Pwp.ret ?_|(refine hK _ ?_;clear hK K)|(refine hK _ _ rfl ?_;clear hK K)|refine CallG.off ?_|with_reducible refine Or.inl ?_|simp only [thenS,blockS]|with_reducible refine And.intro ?_ ?_|with_reducible exact True.intro|simp (dsimp:=false) only [↓gq,↓stepP,↓stepG,go_sem,hc,q,r,c1,htk,hol])
    all_goals (try (first|(intro hg;simp_all;done)|(intro hg;simp [hg];done)|exact of_decide_eq_true rfl|(cases h;done)))
    all_goals (try (first | omega | (simp [maxLen]; omega)))
    refine end103 (x' := ((m / 10 : Nat) : Int)) (d := m % 10) hadd ha (by omega) (by omega) (by omega) ⟨by omega, by omega⟩ (Sub.view (V9 1) (by simp [L103]) rfl ?_ ?_)
    · simp [viewH, viewP, viewL, viewO, L103, V9, keptOf, find, digD, PVal.toD, subD_refl, disj, PVal.ids]
    · simp [viewT, viewP, L103, V9, keptOf, St.ev, find, PVal.toD, subD_refl, disj, PVal.ids]
end Go.Proofs.Ytdodgbhodkcckaa.Pv
end
section
set_option linter.unusedVariables false
set_option linter.unusedSimpArgs false
set_option autoImplicit false
set_option maxRecDepth 100000
namespace Go.Proofs.Ytdodgbhodkcckaa.Pv
open Go Go.RowKit Dig
theorem lessB_digs (a b : Nat) : lessB (digs a) (digs b) = decide (a < b) := by
  unfold lessB
  split
  · rw [val_digs, val_digs]
  · rename_i hne
    rcases Nat.lt_trichotomy (digs a).length (digs b).length with h | h | h
    · rw [decide_eq_true h, decide_eq_true (digs_length_lt h)]
    · exact absurd h hne
    · have := digs_length_lt h
      rw [decide_eq_false (by omega), decide_eq_false (by omega)]
theorem val_sub_digs {a b : Nat} (h : b ≤ a) : val (Dig.subL (digs a) (digs b) 0) = a - b := by
  have := val_subL (small_digs a) (small_digs b) (c := 0) (by omega) (by rw [val_digs, val_digs]; omega)
  rw [val_digs, val_digs] at this; omega
theorem digs_len_pos (n : Nat) : decide (0 < ((digD (digs n)).length : Int)) = decide (n ≠ 0) := by
  rw [dig_len]
  by_cases h : n = 0
  · subst h; rw [digs_zero]; simp
  · rw [digs_pos h, decide_eq_true h]; simp
theorem big_eq {s s' : Bool} {n n' : Nat} (h1 : s = s') (h2 : n = n') : subD (.agg [.v (.bool s), .slc 1 (digD (digs n))]) (.agg [.v (.bool s'), .slc 1 (digD (digs n'))]) := by subst h1; subst h2; exact subD_refl _
set_option maxHeartbeats 8000000 in
theorem run102 (x y : Int) (hx : (digs x.natAbs).length ≤ 1000) (hy : (digs y.natAbs).length ≤ 1000) : Runs Try.prog 102 [.d (bigD x), .d (bigD y)] [] (.d (bigD (x + y))) [] := by
  have r161 := run161 (digs x.natAbs) (digs y.natAbs) (small_digs _) (small_digs _) (by omega) (by omega)
  have hal := length_addL (digs x.natAbs) (digs y.natAbs) 0
  have r160 := run160 (addL (digs x.natAbs) (digs y.natAbs) 0) (by omega)
  rw [trim_eq (small_addL (small_digs _) (small_digs _) (by omega)), val_addL, val_digs, val_digs] at r160
  have r162 := run162 (digs x.natAbs) (digs y.natAbs) (small_digs _) (small_digs _) (by omega) (by omega)
  rw [lessB_digs] at r162
  have rxy := run163 (digs x.natAbs) (digs y.natAbs) (small_digs _) (small_digs _) (by omega) (by omega)
  have ryx := run163 (digs y.natAbs) (digs x.natAbs) (small_digs _) (small_digs _) (by omega) (by omega)
  unfold bigD
  cases hsx : decide (x < 0) <;> cases hsy : decide (y < 0) <;> cases hlt : decide (x.natAbs < y.natAbs) <;> rw [hlt] at r162
  · refine Runs.of (kit Try.prog) Try.func102 rfl rfl (by rw [Try.ntmps102]; exact of_decide_eq_true rfl) ?_; rw [Try.ntmps102, Try.results102]
    repeat' (first|((first|refine goA rfl fun K hK=>?_|refine goB rfl fun K hK=>?_|refine goC rfl rfl fun K hK=>?_|refine goD rfl rfl fun K hK=>?_);simp (dsimp:=false) only [↓gq,↓stepP,↓stepG,go_sem])|refine Pwp.seq ?_|refine Pwp.block ?_|(refine Pwp.exit ?_;simp only [thenS,blockS,if_true,if_false,reduceIte,Nat.reduceEqDiff,Nat.add_one_ne_zero,reduceCtorEq])|(refine Pwp.skip ?_;simp only [thenS,blockS])|(refine Pwp.cond rfl True.intro (fun h=>?_) (fun h=>?_)<;>(try (cases h;done))<;>(try simp only [h]))|refine Pwp.ret ?_|(refine hK _ ?_;clear hK K)|(refine hK _ _ rfl ?_;clear hK K)|(refine CallK.give (ds:=[.slc 1 (digD (digs x.natAbs)), .slc 1 (digD (digs y.natAbs))]) rfl (r161) (by simp) ?_)|(refine CallK.give (ds:=[.slc 1 (digD (addL (digs x.natAbs) (digs y.natAbs) 0))]) rfl (r160) (by simp) ?_)|(refine CallK.give (ds:=[.slc 1 (digD (digs x.natAbs)), .slc 1 (digD (digs y.natAbs))]) rfl (r162) (by simp) ?_)|(refine CallK.give (ds:=[.slc 1 (digD (digs x.natAbs)), .slc 1 (digD (digs y.natAbs))]) rfl (rxy) (by simp) ?_)|(refine CallK.give (ds:=[.slc 1 (digD (digs y.natAbs)), .slc 1 (digD (digs x.natAbs))]) rfl (ryx) (by simp) ?_)|refine CallG.off ?_|with_reducible refine Or.inl ?_|simp only [thenS,blockS]|with_reducible refine And.intro ?_ ?_|with_reducible exact True.intro|simp (dsimp:=false) only [↓gq,↓stepP,↓stepG,go_sem])
    all_goals (try (first|(intro hg;simp_all;done)|(intro hg;simp [hg];done)|exact of_decide_eq_true rfl|(cases h;done)))
    (refine Fin.data (.inr rfl) (by simp (dsimp:=false) only [↓gq,↓stepP,↓stepG,go_sem,resL]; rfl) (by simp only [and_self]) (by simp (dsimp:=false) only [↓gq,↓stepP,↓stepG,go_sem,resP,Nat.le_refl,List.take_length]; try rfl) ?_)
    simp only [decide_eq_true_eq, decide_eq_false_iff_not] at hsx hsy hlt
    try simp only [digs_len_pos]
    refine big_eq ?_ ?_
    · first | (symm; exact decide_eq_true (by omega)) | (symm; exact decide_eq_false (by omega)) | (rw [val_sub_digs (by omega), Bool.true_and]; exact decide_eq_decide.2 (by omega)) | (rw [Bool.false_and]; symm; exact decide_eq_false (by omega)) | (rw [val_sub_digs (by omega)]; exact decide_eq_decide.2 (by omega))
    · first | omega | (rw [val_sub_digs (by omega)]; omega)
  · refine Runs.of (kit Try.prog) Try.func102 rfl rfl (by rw [Try.ntmps102]; exact of_decide_eq_true rfl) ?_; rw [Try.ntmps102, Try.results102]
    repeat' (first|((first|refine goA rfl fun K hK=>?_|refine goB rfl fun K hK=>?_|refine goC rfl rfl fun K hK=>?_|refine goD rfl rfl fun K hK=>?_);simp (dsimp:=false) only [↓gq,↓stepP,↓stepG,go_sem])|refine Pwp.seq ?_|refine Pwp.block ?_|(refine Pwp.exit ?_;simp only [thenS,blockS,if_true,if_false,reduceIte,Nat.reduceEqDiff,Nat.add_one_ne_zero,reduceCtorEq])|(refine Pwp.skip ?_;simp only [thenS,blockS])|(refine Pwp.cond rfl True.intro (fun h=>?_) (fun h=>?_)<;>(try (cases h;done))<;>(try simp only [h]))|refine Pwp.ret ?_|(refine hK _ ?_;clear hK K)|(refine hK _ _ rfl ?_;clear hK K)|(refine CallK.give (ds:=[.slc 1 (digD (digs x.natAbs)), .slc 1 (digD (digs y.natAbs))]) rfl (r161) (by simp) ?_)|(refine CallK.give (ds:=[.slc 1 (digD (addL (digs x.natAbs) (digs y.natAbs) 0))]) rfl (r160) (by simp) ?_)|(refine CallK.give (ds:=[.slc 1 (digD (digs x.natAbs)), .slc 1 (digD (digs y.natAbs))]) rfl (r162) (by simp) ?_)|(refine CallK.give (ds:=[.slc 1 (digD (digs x.natAbs)), .slc 1 (digD (digs y.natAbs))]) rfl (rxy) (by simp) ?_)|(refine CallK.give (ds:=[.slc 1 (digD (digs y.natAbs)), .slc 1 (digD (digs x.natAbs))]) rfl (ryx) (by simp) ?_)|refine CallG.off ?_|with_reducible refine Or.inl ?_|simp only [thenS,blockS]|with_reducible refine And.intro ?_ ?_|with_reducible exact True.intro|simp (dsimp:=false) only [↓gq,↓stepP,↓stepG,go_sem])
    all_goals (try (first|(intro hg;simp_all;done)|(intro hg;simp [hg];done)|exact of_decide_eq_true rfl|(cases h;done)))
    (refine Fin.data (.inr rfl) (by simp (dsimp:=false) only [↓gq,↓stepP,↓stepG,go_sem,resL]; rfl) (by simp only [and_self]) (by simp (dsimp:=false) only [↓gq,↓stepP,↓stepG,go_sem,resP,Nat.le_refl,List.take_length]; try rfl) ?_)
    simp only [decide_eq_true_eq, decide_eq_false_iff_not] at hsx hsy hlt
    try simp only [digs_len_pos]
    refine big_eq ?_ ?_
    · first | (symm; exact decide_eq_true (by omega)) | (symm; exact decide_eq_false (by omega)) | (rw [val_sub_digs (by omega), Bool.true_and]; exact decide_eq_decide.2 (by omega)) | (rw [Bool.false_and]; symm; exact decide_eq_false (by omega)) | (rw [val_sub_digs (by omega)]; exact decide_eq_decide.2 (by omega))
    · first | omega | (rw [val_sub_digs (by omega)]; omega)
  · refine Runs.of (kit Try.prog) Try.func102 rfl rfl (by rw [Try.ntmps102]; exact of_decide_eq_true rfl) ?_; rw [Try.ntmps102, Try.results102]
    repeat' (first|((first|refine goA rfl fun K hK=>?_|refine goB rfl fun K hK=>?_|refine goC rfl rfl fun K hK=>?_|refine goD rfl rfl fun K hK=>?_);simp (dsimp:=false) only [↓gq,↓stepP,↓stepG,go_sem])|refine Pwp.seq ?_|refine Pwp.block ?_|(refine Pwp.exit ?_;simp only [thenS,blockS,if_true,if_false,reduceIte,Nat.reduceEqDiff,Nat.add_one_ne_zero,reduceCtorEq])|(refine Pwp.skip ?_;simp only [thenS,blockS])|(refine Pwp.cond rfl True.intro (fun h=>?_) (fun h=>?_)<;>(try (cases h;done))<;>(try simp only [h]))|refine Pwp.ret ?_|(refine hK _ ?_;clear hK K)|(refine hK _ _ rfl ?_;clear hK K)|(refine CallK.give (ds:=[.slc 1 (digD (digs x.natAbs)), .slc 1 (digD (digs y.natAbs))]) rfl (r161) (by simp) ?_)|(refine CallK.give (ds:=[.slc 1 (digD (addL (digs x.natAbs) (digs y.natAbs) 0))]) rfl (r160) (by simp) ?_)|(refine CallK.give (ds:=[.slc 1 (digD (digs x.natAbs)), .slc 1 (digD (digs y.natAbs))]) rfl (r162) (by simp) ?_)|(refine CallK.give (ds:=[.slc 1 (digD (digs x.natAbs)), .slc 1 (digD (digs y.natAbs))]) rfl (rxy) (by simp) ?_)|(refine CallK.give (ds:=[.slc 1 (digD (digs y.natAbs)), .slc 1 (digD (digs x.natAbs))]) rfl (ryx) (by simp) ?_)|refine CallG.off ?_|with_reducible refine Or.inl ?_|simp only [thenS,blockS]|with_reducible refine And.intro ?_ ?_|with_reducible exact True.intro|simp (dsimp:=false) only [↓gq,↓stepP,↓stepG,go_sem])
    all_goals (try (first|(intro hg;simp_all;done)|(intro hg;simp [hg];done)|exact of_decide_eq_true rfl|(cases h;done)))
    (refine Fin.data (.inr rfl) (by simp (dsimp:=false) only [↓gq,↓stepP,↓stepG,go_sem,resL]; rfl) (by simp only [and_self]) (by simp (dsimp:=false) only [↓gq,↓stepP,↓stepG,go_sem,resP,Nat.le_refl,List.take_length]; try rfl) ?_)
    simp only [decide_eq_true_eq, decide_eq_false_iff_not] at hsx hsy hlt
    try simp only [digs_len_pos]
    refine big_eq ?_ ?_
    · first | (symm; exact decide_eq_true (by omega)) | (symm; exact decide_eq_false (by omega)) | (rw [val_sub_digs (by omega), Bool.true_and]; exact decide_eq_decide.2 (by omega)) | (rw [Bool.false_and]; symm; exact decide_eq_false (by omega)) | (rw [val_sub_digs (by omega)]; exact decide_eq_decide.2 (by omega))
    · first | omega | (rw [val_sub_digs (by omega)]; omega)
  · refine Runs.of (kit Try.prog) Try.func102 rfl rfl (by rw [Try.ntmps102]; exact of_decide_eq_true rfl) ?_; rw [Try.ntmps102, Try.results102]
    repeat' (first|((first|refine goA rfl fun K hK=>?_|refine goB rfl fun K hK=>?_|refine goC rfl rfl fun K hK=>?_|refine goD rfl rfl fun K hK=>?_);simp (dsimp:=false) only [↓gq,↓stepP,↓stepG,go_sem])|refine Pwp.seq ?_|refine Pwp.block ?_|(refine Pwp.exit ?_;simp only [thenS,blockS,if_true,if_false,reduceIte,Nat.reduceEqDiff,Nat.add_one_ne_zero,reduceCtorEq])|(refine Pwp.skip ?_;simp only [thenS,blockS])|(refine Pwp.cond rfl True.intro (fun h=>?_) (fun h=>?_)<;>(try (cases h;done))<;>(try simp only [h]))|refine Pwp.ret ?_|(refine hK _ ?_;clear hK K)|(refine hK _ _ rfl ?_;clear hK K)|(refine CallK.give (ds:=[.slc 1 (digD (digs x.natAbs)), .slc 1 (digD (digs y.natAbs))]) rfl (r161) (by simp) ?_)|(refine CallK.give (ds:=[.slc 1 (digD (addL (digs x.natAbs) (digs y.natAbs) 0))]) rfl (r160) (by simp) ?_)|(refine CallK.give (ds:=[.slc 1 (digD (digs x.natAbs)), .slc 1 (digD (digs y.natAbs))]) rfl (r162) (by simp) ?_)|(refine CallK.give (ds:=[.slc 1 (digD (digs x.natAbs)), .slc 1 (digD (digs y.natAbs))]) rfl (rxy) (by simp) ?_)|(refine CallK.give (ds:=[.slc 1 (digD (digs y.natAbs)), .slc 1 (digD (digs x.natAbs))]) rfl (ryx) (by simp) ?_)|refine CallG.off ?_|with_reducible refine Or.inl ?_|simp only [thenS,blockS]|with_reducible refine And.intro ?_ ?_|with_reducible exact True.intro|simp (dsimp:=false) only [↓gq,↓stepP,↓stepG,go_sem])
    all_goals (try (first|(intro hg;simp_all;done)|(intro hg;simp [hg];done)|exact of_decide_eq_true rfl|(cases h;done)))
    (refine Fin.data (.inr rfl) (by simp (dsimp:=false) only [↓gq,↓stepP,↓stepG,go_sem,resL]; rfl) (by simp only [and_self]) (by simp (dsimp:=false) only [↓gq,↓stepP,↓stepG,go_sem,resP,Nat.le_refl,List.take_length]; try rfl) ?_)
    simp only [decide_eq_true_eq, decide_eq_false_iff_not] at hsx hsy hlt
    try simp only [digs_len_pos]
    refine big_eq ?_ ?_
    · first | (symm; exact decide_eq_true (by omega)) | (symm; exact decide_eq_false (by omega)) | (rw [val_sub_digs (by omega), Bool.true_and]; exact decide_eq_decide.2 (by omega)) | (rw [Bool.false_and]; symm; exact decide_eq_false (by omega)) | (rw [val_sub_digs (by omega)]; exact decide_eq_decide.2 (by omega))
    · first | omega | (rw [val_sub_digs (by omega)]; omega)
  · refine Runs.of (kit Try.prog) Try.func102 rfl rfl (by rw [Try.ntmps102]; exact of_decide_eq_true rfl) ?_; rw [Try.ntmps102, Try.results102]
    repeat' (first|((first|refine goA rfl fun K hK=>?_|refine goB rfl fun K hK=>?_|refine goC rfl rfl fun K hK=>?_|refine goD rfl rfl fun K hK=>?_);simp (dsimp:=false) only [↓gq,↓stepP,↓stepG,go_sem])|refine Pwp.seq ?_|refine Pwp.block ?_|(refine Pwp.exit ?_;simp only [thenS,blockS,if_true,if_false,reduceIte,Nat.reduceEqDiff,Nat.add_one_ne_zero,reduceCtorEq])|(refine Pwp.skip ?_;simp only [thenS,blockS])|(refine Pwp.cond rfl True.intro (fun h=>?_) (fun h=>?_)<;>(try (cases h;done))<;>(try simp only [h]))|refine Pwp.ret ?_|(refine hK _ ?_;clear hK K)|(refine hK _ _ rfl ?_;clear hK K)|(refine CallK.give (ds:=[.slc 1 (digD (digs x.natAbs)), .slc 1 (digD (digs y.natAbs))]) rfl (r161) (by simp) ?_)|(refine CallK.give (ds:=[.slc 1 (digD (addL (digs x.natAbs) (digs y.natAbs) 0))]) rfl (r160) (by simp) ?_)|(refine CallK.give (ds:=[.slc 1 (digD (digs x.natAbs)), .slc 1 (digD (digs y.natAbs))]) rfl (r162) (by simp) ?_)|(refine CallK.give (ds:=[.slc 1 (digD (digs x.natAbs)), .slc 1 (digD (digs y.natAbs))]) rfl (rxy) (by simp) ?_)|(refine CallK.give (ds:=[.slc 1 (digD (digs y.natAbs)), .slc 1 (digD (digs x.natAbs))]) rfl (ryx) (by simp) ?_)|refine CallG.off ?_|with_reducible refine Or.inl ?_|simp only [thenS,blockS]|with_reducible refine And.intro ?_ ?_|with_reducible exact True.intro|simp (dsimp:=false) only [↓gq,↓stepP,↓stepG,go_sem])
    all_goals (try (first|(intro hg;simp_all;done)|(intro hg;simp [hg];done)|exact of_decide_eq_true rfl|(cases h;done)))
    (refine Fin.data (.inr rfl) (by simp (dsimp:=false) only [↓gq,↓stepP,↓stepG,go_sem,resL]; rfl) (by simp only [and_self]) (by simp (dsimp:=false) only [↓gq,↓stepP,↓stepG,go_sem,resP,Nat.le_refl,List.take_length]; try rfl) ?_)
    simp only [decide_eq_true_eq, decide_eq_false_iff_not] at hsx hsy hlt
    try simp only [digs_len_pos]
    refine big_eq ?_ ?_
    · first | (symm; exact decide_eq_true (by omega)) | (symm; exact decide_eq_false (by omega)) | (rw [val_sub_digs (by omega), Bool.true_and]; exact decide_eq_decide.2 (by omega)) | (rw [Bool.false_and]; symm; exact decide_eq_false (by omega)) | (rw [val_sub_digs (by omega)]; exact decide_eq_decide.2 (by omega))
    · first | omega | (rw [val_sub_digs (by omega)]; omega)
  · refine Runs.of (kit Try.prog) Try.func102 rfl rfl (by rw [Try.ntmps102]; exact of_decide_eq_true rfl) ?_; rw [Try.ntmps102, Try.results102]
    repeat' (first|((first|refine goA rfl fun K hK=>?_|refine goB rfl fun K hK=>?_|refine goC rfl rfl fun K hK=>?_|refine goD rfl rfl fun K hK=>?_);simp (dsimp:=false) only [↓gq,↓stepP,↓stepG,go_sem])|refine Pwp.seq ?_|refine Pwp.block ?_|(refine Pwp.exit ?_;simp only [thenS,blockS,if_true,if_false,reduceIte,Nat.reduceEqDiff,Nat.add_one_ne_zero,reduceCtorEq])|(refine Pwp.skip ?_;simp only [thenS,blockS])|(refine Pwp.cond rfl True.intro (fun h=>?_) (fun h=>?_)<;>(try (cases h;done))<;>(try simp only [h]))|refine Pwp.ret ?_|(refine hK _ ?_;clear hK K)|(refine hK _ _ rfl ?_;clear hK K)|(refine CallK.give (ds:=[.slc 1 (digD (digs x.natAbs)), .slc 1 (digD (digs y.natAbs))]) rfl (r161) (by simp) ?_)|(refine CallK.give (ds:=[.slc 1 (digD (addL (digs x.natAbs) (digs y.natAbs) 0))]) rfl (r160) (by simp) ?_)|(refine CallK.give (ds:=[.slc 1 (digD (digs x.natAbs)), .slc 1 (digD (digs y.natAbs))]) rfl (r162) (by simp) ?_)|(refine CallK.give (ds:=[.slc 1 (digD (digs x.natAbs)), .slc 1 (digD (digs y.natAbs))]) rfl (rxy) (by simp) ?_)|(refine CallK.give (ds:=[.slc 1 (digD (digs y.natAbs)), .slc 1 (digD (digs x.natAbs))]) rfl (ryx) (by simp) ?_)|refine CallG.off ?_|with_reducible refine Or.inl ?_|simp only [thenS,blockS]|with_reducible refine And.intro ?_ ?_|with_reducible exact True.intro|simp (dsimp:=false) only [↓gq,↓stepP,↓stepG,go_sem])
    all_goals (try (first|(intro hg;simp_all;done)|(intro hg;simp [hg];done)|exact of_decide_eq_true rfl|(cases h;done)))
    (refine Fin.data (.inr rfl) (by simp (dsimp:=false) only [↓gq,↓stepP,↓stepG,go_sem,resL]; rfl) (by simp only [and_self]) (by simp (dsimp:=false) only [↓gq,↓stepP,↓stepG,go_sem,resP,Nat.le_refl,List.take_length]; try rfl) ?_)
    simp only [decide_eq_true_eq, decide_eq_false_iff_not] at hsx hsy hlt
    try simp only [digs_len_pos]
    refine big_eq ?_ ?_
    · first | (symm; exact decide_eq_true (by omega)) | (symm; exact decide_eq_false (by omega)) | (rw [val_sub_digs (by omega), Bool.true_and]; exact decide_eq_decide.2 (by omega)) | (rw [Bool.false_and]; symm; exact decide_eq_false (by omega)) | (rw [val_sub_digs (by omega)]; exact decide_eq_decide.2 (by omega))
    · first | omega | (rw [val_sub_digs (by omega)]; omega)
  · refine Runs.of (kit Try.prog) Try.func102 rfl rfl (by rw [Try.ntmps102]; exact of_decide_eq_true rfl) ?_; rw [Try.ntmps102, Try.results102]
    repeat' (first|((first|refine goA rfl fun K hK=>?_|refine goB rfl fun K hK=>?_|refine goC rfl rfl fun K hK=>?_|refine goD rfl rfl fun K hK=>?_);simp (dsimp:=false) only [↓gq,↓stepP,↓stepG,go_sem])|refine Pwp.seq ?_|refine Pwp.block ?_|(refine Pwp.exit ?_;simp only [thenS,blockS,if_true,if_false,reduceIte,Nat.reduceEqDiff,Nat.add_one_ne_zero,reduceCtorEq])|(refine Pwp.skip ?_;simp only [thenS,blockS])|(refine Pwp.cond rfl True.intro (fun h=>?_) (fun h=>?_)<;>(try (cases h;done))<;>(try simp only [h]))|refine Pwp.ret ?_|(refine hK _ ?_;clear hK K)|(refine hK _ _ rfl ?_;clear hK K)|(refine CallK.give (ds:=[.slc 1 (digD (digs x.natAbs)), .slc 1 (digD (digs y.natAbs))]) rfl (r161) (by simp) ?_)|(refine CallK.give (ds:=[.slc 1 (digD (addL (digs x.natAbs) (digs y.natAbs) 0))]) rfl (r160) (by simp) ?_)|(refine CallK.give (ds:=[.slc 1 (digD (digs x.natAbs)), .slc 1 (digD (digs y.natAbs))]) rfl (r162) (by simp) ?_)|(refine CallK.give (ds:=[.slc 1 (digD (digs x.natAbs)), .slc 1 (digD (digs y.natAbs))]) rfl (rxy) (by simp) ?_)|(refine CallK.give (ds:=[.slc 1 (digD (digs y.natAbs)), .slc 1 (digD (digs x.natAbs))]) rfl (ryx) (by simp) ?_)|refine CallG.off ?_|with_reducible refine Or.inl ?_|simp only [thenS,blockS]|with_reducible refine And.intro ?_ ?_|with_reducible exact True.intro|simp (dsimp:=false) only [↓gq,↓stepP,↓stepG,go_sem])
    all_goals (try (first|(intro hg;simp_all;done)|(intro hg;simp [hg];done)|exact of_decide_eq_true rfl|(cases h;done)))
    (refine Fin.data (.inr rfl) (by simp (dsimp:=false) only [↓gq,↓stepP,↓stepG,go_sem,resL]; rfl) (by simp only [and_self]) (by simp (dsimp:=false) only [↓gq,↓stepP,↓stepG,go_sem,resP,Nat.le_refl,List.take_length]; try rfl) ?_)
    simp only [decide_eq_true_eq, decide_eq_false_iff_not] at hsx hsy hlt
    try simp only [digs_len_pos]
    refine big_eq ?_ ?_
    · first | (symm; exact decide_eq_true (by omega)) | (symm; exact decide_eq_false (by omega)) | (rw [val_sub_digs (by omega), Bool.true_and]; exact decide_eq_decide.2 (by omega)) | (rw [Bool.false_and]; symm; exact decide_eq_false (by omega)) | (rw [val_sub_digs (by omega)]; exact decide_eq_decide.2 (by omega))
    · first | omega | (rw [val_sub_digs (by omega)]; omega)
  · refine Runs.of (kit Try.prog) Try.func102 rfl rfl (by rw [Try.ntmps102]; exact of_decide_eq_true rfl) ?_; rw [Try.ntmps102, Try.results102]
    repeat' (first|((first|refine goA rfl fun K hK=>?_|refine goB rfl fun K hK=>?_|refine goC rfl rfl fun K hK=>?_|refine goD rfl rfl fun K hK=>?_);simp (dsimp:=false) only [↓gq,↓stepP,↓stepG,go_sem])|refine Pwp.seq ?_|refine Pwp.block ?_|(refine Pwp.exit ?_;simp only [thenS,blockS,if_true,if_false,reduceIte,Nat.reduceEqDiff,Nat.add_one_ne_zero,reduceCtorEq])|(refine Pwp.skip ?_;simp only [thenS,blockS])|(refine Pwp.cond rfl True.intro (fun h=>?_) (fun h=>?_)<;>(try (cases h;done))<;>(try simp only [h]))|refine Pwp.ret ?_|(refine hK _ ?_;clear hK K)|(refine hK _ _ rfl ?_;clear hK K)|(refine CallK.give (ds:=[.slc 1 (digD (digs x.natAbs)), .slc 1 (digD (digs y.natAbs))]) rfl (r161) (by simp) ?_)|(refine CallK.give (ds:=[.slc 1 (digD (addL (digs x.natAbs) (digs y.natAbs) 0))]) rfl (r160) (by simp) ?_)|(refine CallK.give (ds:=[.slc 1 (digD (digs x.natAbs)), .slc 1 (digD (digs y.natAbs))]) rfl (r162) (by simp) ?_)|(refine CallK.give (ds:=[.slc 1 (digD (digs x.natAbs)), .slc 1 (digD (digs y.natAbs))]) rfl (rxy) (by simp) ?_)|(refine CallK.give (ds:=[.slc 1 (digD (digs y.natAbs)), .slc 1 (digD (digs x.natAbs))]) rfl (ryx) (by simp) ?_)|refine CallG.off ?_|with_reducible refine Or.inl ?_|simp only [thenS,blockS]|with_reducible refine And.intro ?_ ?_|with_reducible exact True.intro|simp (dsimp:=false) only [↓gq,↓stepP,↓stepG,go_sem])
    all_goals (try (first|(intro hg;simp_all;done)|(intro hg;simp [hg];done)|exact of_decide_eq_true rfl|(cases h;done)))
    (refine Fin.data (.inr rfl) (by simp (dsimp:=false) only [↓gq,↓stepP,↓stepG,go_sem,resL]; rfl) (by simp only [and_self]) (by simp (dsimp:=false) only [↓gq,↓stepP,↓stepG,go_sem,resP,Nat.le_refl,List.take_length]; try rfl) ?_)
    simp only [decide_eq_true_eq, decide_eq_false_iff_not] at hsx hsy hlt
    try simp only [digs_len_pos]
    refine big_eq ?_ ?_
    · first | (symm; exact decide_eq_true (by omega)) | (symm; exact decide_eq_false (by omega)) | (rw [val_sub_digs (by omega), Bool.true_and]; exact decide_eq_decide.2 (by omega)) | (rw [Bool.false_and]; symm; exact decide_eq_false (by omega)) | (rw [val_sub_digs (by omega)]; exact decide_eq_decide.2 (by omega))
    · first | omega | (rw [val_sub_digs (by omega)]; omega)
end Go.Proofs.Ytdodgbhodkcckaa.Pv
end
section
set_option linter.unusedVariables false
set_option linter.unusedSimpArgs false
set_option autoImplicit false
set_option maxRecDepth 100000
namespace Go.Proofs.Ytdodgbhodkcckaa.Pv
open Go Go.RowKit Dig
theorem most1 : [7, 0, 8, 5, 7, 7, 4, 5, 8, 6, 3, 0, 2, 7, 3, 3, 2, 2, 9] = digs 9223372036854775807 := by
  have h := canon_digs (l := [7, 0, 8, 5, 7, 7, 4, 5, 8, 6, 3, 0, 2, 7, 3, 3, 2, 2, 9]) ⟨by intro d hd; simp at hd; omega, by simp⟩
  simpa [val] using h.symm
theorem most2 : [8, 0, 8, 5, 7, 7, 4, 5, 8, 6, 3, 0, 2, 7, 3, 3, 2, 2, 9] = digs 9223372036854775808 := by
  have h := canon_digs (l := [8, 0, 8, 5, 7, 7, 4, 5, 8, 6, 3, 0, 2, 7, 3, 3, 2, 2, 9]) ⟨by intro d hd; simp at hd; omega, by simp⟩
  simpa [val] using h.symm
theorem val_drop_le (l : List Nat) (i : Nat) : val (l.drop i) ≤ val l := by
  have h := val_append (l.take i) (l.drop i)
  rw [List.take_append_drop] at h
  have : 1 * val (l.drop i) ≤ 10 ^ (l.take i).length * val (l.drop i) := Nat.mul_le_mul_right _ (Nat.pow_pos (by omega))
  omega
theorem val_drop_succ {l : List Nat} {n d : Nat} (h : l[n]? = some d) : val (l.drop n) = d + 10 * val (l.drop (n + 1)) := by
  obtain ⟨hn, rfl⟩ := List.getElem?_eq_some_iff.1 h
  rw [List.drop_eq_getElem_cons hn]; rfl
def L104 (b : Bool) (l : List Nat) (v : Int) (n : Nat) : St := ⟨[(6, pint .i64 ((n : Int) - 1)), (5, pint .i64 v), (1, .ref 8 0)], [(8, .box [.d (.v (.bool b)), .d (.slc 1 (digD l))])], 76⟩
set_option maxHeartbeats 8000000 in
theorem run104p (l : List Nat) (hs : Small l) (hl : l.length ≤ 1000) (hm : decide (9223372036854775807 < val l) = false) (hd : l = digs (val l)) : Runs Try.prog 104 [.d (.agg [.v (.bool false), .slc 1 (digD l)])] [] (.d (.tup [I64 (val l), .v (.bool true)])) [] := by
  have r := run162 [7, 0, 8, 5, 7, 7, 4, 5, 8, 6, 3, 0, 2, 7, 3, 3, 2, 2, 9] l (by rw [most1]; exact small_digs _) hs (by simp) (by omega)
  have hll : lessB [7, 0, 8, 5, 7, 7, 4, 5, 8, 6, 3, 0, 2, 7, 3, 3, 2, 2, 9] l = false := by rw [most1, hd, lessB_digs]; exact hm
  rw [hll] at r
  have hm := of_decide_eq_false hm
  clear hd hll hs
  have hlen := dig_len l
  have w0 : IntKind.i64.wrap ((l.length : Int) - 1) = (l.length : Int) - 1 := wrap_of (by omega) (by omega)
  have e0 : val [] = 0 := rfl
  refine Runs.of (kit Try.prog) Try.func104 rfl rfl (by rw [Try.ntmps104]; exact of_decide_eq_true rfl) ?_; rw [Try.ntmps104, Try.results104]
  repeat' (first|((first|refine goA rfl fun K hK=>?_|refine goB rfl fun K hK=>?_|refine goC rfl rfl fun K hK=>?_|refine goD rfl rfl fun K hK=>?_);simp (dsimp:=false) only [↓gq,↓stepP,↓stepG,go_sem,hlen,w0])|refine Pwp.seq ?_|refine Pwp.block ?_|(refine Pwp.exit ?_;simp only [thenS,blockS,if_true,if_false,reduceIte,Nat.reduceEqDiff,Nat.add_one_ne_zero,reduceCtorEq])|(refine Pwp.skip ?_;simp only [thenS,blockS])|(refine Pwp.cond rfl True.intro (fun h=>?_) (fun h=>?_)<;>(try (cases h;done))<;>(try simp only [h]))|refine Pwp.ret ?_|(refine hK _ ?_;clear hK K)|(refine hK _ _ rfl ?_;clear hK K)|(refine CallK.give (ds:=[.slc 1 (digD [7, 0, 8, 5, 7, 7, 4, 5, 8, 6, 3, 0, 2, 7, 3, 3, 2, 2, 9]), .slc 1 (digD l)]) rfl (r) (by simp) ?_)|refine CallG.off ?_|with_reducible refine Or.inl ?_|simp only [thenS,blockS]|with_reducible refine And.intro ?_ ?_|with_reducible exact True.intro|simp (dsimp:=false) only [↓gq,↓stepP,↓stepG,go_sem,hlen,w0])
  all_goals (try (first|(intro hg;simp_all;done)|(intro hg;simp [hg];done)|exact of_decide_eq_true rfl|(cases h;done)))
  refine Pwp.loop (fun n s => n ≤ l.length ∧ s = L104 false l (val (l.drop n)) n) l.length (s := L104 false l (val (l.drop l.length)) l.length) (Sub.view V0 (by simp [L104]) rfl (by simp [L104,e0]) (by simp [L104,e0])) ⟨Nat.le_refl _, rfl⟩ ?_
  rintro n s ⟨hn, rfl⟩
  unfold L104
  cases n with
  | zero =>
    have c1 : decide ((0 : Int) ≤ ((0 : Nat) : Int) - 1) = false := by simp
    repeat' (first|((first|refine goA rfl fun K hK=>?_|refine goB rfl fun K hK=>?_|refine goC rfl rfl fun K hK=>?_|refine goD rfl rfl fun K hK=>?_);simp (dsimp:=false) only [↓gq,↓stepP,↓stepG,go_sem,c1])|refine Pwp.seq ?_|refine Pwp.block ?_|(refine Pwp.exit ?_;simp only [thenS,blockS,if_true,if_false,reduceIte,Nat.reduceEqDiff,Nat.add_one_ne_zero,reduceCtorEq])|(refine Pwp.skip ?_;simp only [thenS,blockS])|(refine Pwp.cond rfl True.intro (fun h=>?_) (fun h=>?_)<;>(try (cases h;done))<;>(try simp only [h]))|refine Pwp.ret ?_|(refine hK _ ?_;clear hK K)|(refine hK _ _ rfl ?_;clear hK K)|refine CallG.off ?_|with_reducible refine Or.inl ?_|simp only [thenS,blockS]|with_reducible refine And.intro ?_ ?_|with_reducible exact True.intro|simp (dsimp:=false) only [↓gq,↓stepP,↓stepG,go_sem,c1])
    all_goals (try (first|(intro hg;simp_all;done)|(intro hg;simp [hg];done)|exact of_decide_eq_true rfl|(cases h;done)))
    (refine Fin.data (.inr rfl) (by simp (dsimp:=false) only [↓gq,↓stepP,↓stepG,go_sem,resL]; rfl) (by simp only [and_self]) (by simp (dsimp:=false) only [↓gq,↓stepP,↓stepG,go_sem,resP,Nat.le_refl,List.take_length]; try rfl) ?_)
    exact subD_refl _
  | succ n =>
    obtain ⟨d, hdn, hdm⟩ := at_lt (l := l) (i := n) (by omega)
    have hg := dig_get hdn
    have c0 : ((n + 1 : Nat) : Int) - 1 = (n : Int) := by omega
    have hv := val_drop_succ hdn
    have hb := val_drop_le l n
    have w1 : IntKind.i64.wrap (10 * (val (l.drop (n + 1)) : Int)) = 10 * (val (l.drop (n + 1)) : Int) := wrap_of (by omega) (by omega)
    have w2 : IntKind.i64.wrap (10 * (val (l.drop (n + 1)) : Int) + (d : Int)) = (val (l.drop n) : Int) := by rw [hv, wrap_of (by omega) (by omega)]; omega
    have w3 : IntKind.i64.wrap ((n : Int) - 1) = (n : Int) - 1 := wrap_of (by omega) (by omega)
    simp only [c0]
    repeat' (first|((first|refine goA rfl fun K hK=>?_|refine goB rfl fun K hK=>?_|refine goC rfl rfl fun K hK=>?_|refine goD rfl rfl fun K hK=>?_);simp (dsimp:=false) only [↓gq,↓stepP,↓stepG,go_sem,hg,w1,w2,w3,hlen])|refine Pwp.seq ?_|refine Pwp.block ?_|(refine Pwp.exit ?_;simp only [thenS,blockS,if_true,if_false,reduceIte,Nat.reduceEqDiff,Nat.add_one_ne_zero,reduceCtorEq])|(refine Pwp.skip ?_;simp only [thenS,blockS])|(refine Pwp.cond rfl True.intro (fun h=>?_) (fun h=>?_)<;>(try (cases h;done))<;>(try simp only [h]))|refine Pwp.ret ?_|(refine hK _ ?_;clear hK K)|(refine hK _ _ rfl ?_;clear hK K)|refine CallG.off ?_|with_reducible refine Or.inl ?_|simp only [thenS,blockS]|with_reducible refine And.intro ?_ ?_|with_reducible exact True.intro|simp (dsimp:=false) only [↓gq,↓stepP,↓stepG,go_sem,hg,w1,w2,w3,hlen])
    all_goals (try (first|(intro hg;simp_all;done)|(intro hg;simp [hg];done)|exact of_decide_eq_true rfl|(cases h;done)))
    refine ⟨n, L104 false l (val (l.drop n)) n, by omega, Sub.view V0 (by simp [L104]) rfl (by simp [L104]) (by simp [L104]), by omega, rfl⟩
set_option maxHeartbeats 8000000 in
theorem run104n (l : List Nat) (hs : Small l) (hl : l.length ≤ 1000) (hm : decide (9223372036854775808 < val l) = false) (hd : l = digs (val l)) : Runs Try.prog 104 [.d (.agg [.v (.bool true), .slc 1 (digD l)])] [] (.d (.tup [I64 (-(val l : Int)), .v (.bool true)])) [] := by
  have r := run162 [8, 0, 8, 5, 7, 7, 4, 5, 8, 6, 3, 0, 2, 7, 3, 3, 2, 2, 9] l (by rw [most2]; exact small_digs _) hs (by simp) (by omega)
  have hll : lessB [8, 0, 8, 5, 7, 7, 4, 5, 8, 6, 3, 0, 2, 7, 3, 3, 2, 2, 9] l = false := by rw [most2, hd, lessB_digs]; exact hm
  rw [hll] at r
  have hm := of_decide_eq_false hm
  clear hd hll hs
  have hlen := dig_len l
  have w0 : IntKind.i64.wrap ((l.length : Int) - 1) = (l.length : Int) - 1 := wrap_of (by omega) (by omega)
  have e0 : val [] = 0 := rfl
  refine Runs.of (kit Try.prog) Try.func104 rfl rfl (by rw [Try.ntmps104]; exact of_decide_eq_true rfl) ?_; rw [Try.ntmps104, Try.results104]
  repeat' (first|((first|refine goA rfl fun K hK=>?_|refine goB rfl fun K hK=>?_|refine goC rfl rfl fun K hK=>?_|refine goD rfl rfl fun K hK=>?_);simp (dsimp:=false) only [↓gq,↓stepP,↓stepG,go_sem,hlen,w0])|refine Pwp.seq ?_|refine Pwp.block ?_|(refine Pwp.exit ?_;simp only [thenS,blockS,if_true,if_false,reduceIte,Nat.reduceEqDiff,Nat.add_one_ne_zero,reduceCtorEq])|(refine Pwp.skip ?_;simp only [thenS,blockS])|(refine Pwp.cond rfl True.intro (fun h=>?_) (fun h=>?_)<;>(try (cases h;done))<;>(try simp only [h]))|refine Pwp.ret ?_|(refine hK _ ?_;clear hK K)|(refine hK _ _ rfl ?_;clear hK K)|(refine CallK.give (ds:=[.slc 1 (digD [8, 0, 8, 5, 7, 7, 4, 5, 8, 6, 3, 0, 2, 7, 3, 3, 2, 2, 9]), .slc 1 (digD l)]) rfl (r) (by simp) ?_)|refine CallG.off ?_|with_reducible refine Or.inl ?_|simp only [thenS,blockS]|with_reducible refine And.intro ?_ ?_|with_reducible exact True.intro|simp (dsimp:=false) only [↓gq,↓stepP,↓stepG,go_sem,hlen,w0])
  all_goals (try (first|(intro hg;simp_all;done)|(intro hg;simp [hg];done)|exact of_decide_eq_true rfl|(cases h;done)))
  refine Pwp.loop (fun n s => n ≤ l.length ∧ s = L104 true l (-(val (l.drop n) : Int)) n) l.length (s := L104 true l (-(val (l.drop l.length) : Int)) l.length) (Sub.view V0 (by simp [L104]) rfl (by simp [L104,e0]) (by simp [L104,e0])) ⟨Nat.le_refl _, rfl⟩ ?_
  rintro n s ⟨hn, rfl⟩
  unfold L104
  cases n with
  | zero =>
    have c1 : decide ((0 : Int) ≤ ((0 : Nat) : Int) - 1) = false := by simp
    repeat' (first|((first|refine goA rfl fun K hK=>?_|refine goB rfl fun K hK=>?_|refine goC rfl rfl fun K hK=>?_|refine goD rfl rfl fun K hK=>?_);simp (dsimp:=false) only [↓gq,↓stepP,↓stepG,go_sem,c1])|refine Pwp.seq ?_|refine Pwp.block ?_|(refine Pwp.exit ?_;simp only [thenS,blockS,if_true,if_false,reduceIte,Nat.reduceEqDiff,Nat.add_one_ne_zero,reduceCtorEq])|(refine Pwp.skip ?_;simp only [thenS,blockS])|(refine Pwp.cond rfl True.intro (fun h=>?_) (fun h=>?_)<;>(try (cases h;done))<;>(try simp only [h]))|refine Pwp.ret ?_|(refine hK _ ?_;clear hK K)|(refine hK _ _ rfl ?_;clear hK K)|refine CallG.off ?_|with_reducible refine Or.inl ?_|simp only [thenS,blockS]|with_reducible refine And.intro ?_ ?_|with_reducible exact True.intro|simp (dsimp:=false) only [↓gq,↓stepP,↓stepG,go_sem,c1])
    all_goals (try (first|(intro hg;simp_all;done)|(intro hg;simp [hg];done)|exact of_decide_eq_true rfl|(cases h;done)))
    (refine Fin.data (.inr rfl) (by simp (dsimp:=false) only [↓gq,↓stepP,↓stepG,go_sem,resL]; rfl) (by simp only [and_self]) (by simp (dsimp:=false) only [↓gq,↓stepP,↓stepG,go_sem,resP,Nat.le_refl,List.take_length]; try rfl) ?_)
    exact subD_refl _
  | succ n =>
    obtain ⟨d, hdn, hdm⟩ := at_lt (l := l) (i := n) (by omega)
    have hg := dig_get hdn
    have c0 : ((n + 1 : Nat) : Int) - 1 = (n : Int) := by omega
    have hv := val_drop_succ hdn
    have hb := val_drop_le l n
    have w4 : IntKind.i64.wrap (0 - (d : Int)) = -(d : Int) := by rw [wrap_of (by omega) (by omega)]; omega
    have w1 : IntKind.i64.wrap (10 * -(val (l.drop (n + 1)) : Int)) = 10 * -(val (l.drop (n + 1)) : Int) := wrap_of (by omega) (by omega)
    have w2 : IntKind.i64.wrap (10 * -(val (l.drop (n + 1)) : Int) + -(d : Int)) = -(val (l.drop n) : Int) := by rw [hv, wrap_of (by omega) (by omega)]; omega
    have w3 : IntKind.i64.wrap ((n : Int) - 1) = (n : Int) - 1 := wrap_of (by omega) (by omega)
    simp only [c0]
    repeat' (first|((first|refine goA rfl fun K hK=>?_|refine goB rfl fun K hK=>?_|refine goC rfl rfl fun K hK=>?_|refine goD rfl rfl fun K hK=>?_);simp (dsimp:=false) only [↓gq,↓stepP,↓stepG,go_sem,hg,w1,w2,w3,w4,hlen])|refine Pwp.seq ?_|refine Pwp.block ?_|(refine Pwp.exit ?_;simp only [thenS,blockS,if_true,if_false,reduceIte,Nat.reduceEqDiff,Nat.add_one_ne_zero,reduceCtorEq])|(refine Pwp.skip ?_;simp only [thenS,blockS])|(refine Pwp.cond rfl True.intro (fun h=>?_) (fun h=>?_)<;>(try (cases h;done))<;>(try simp only [h]))|refine Pwp.ret ?_|(refine hK _ ?_;clear hK K)|(refine hK _ _ rfl ?_;clear hK K)|refine CallG.off ?_|with_reducible refine Or.inl ?_|simp only [thenS,blockS]|with_reducible refine And.intro ?_ ?_|with_reducible exact True.intro|simp (dsimp:=false) only [↓gq,↓stepP,↓stepG,go_sem,hg,w1,w2,w3,w4,hlen])
    all_goals (try (first|(intro hg;simp_all;done)|(intro hg;simp [hg];done)|exact of_decide_eq_true rfl|(cases h;done)))
    refine ⟨n, L104 true l (-(val (l.drop n) : Int)) n, by omega, Sub.view V0 (by simp [L104]) rfl (by simp [L104]) (by simp [L104]), by omega, rfl⟩
set_option maxHeartbeats 8000000 in
theorem run104x (b : Bool) (m : List Nat) (hml : m.length = 19) (l : List Nat) (hl : l.length ≤ 1000) (hsm : Small m) (hs : Small l) (hll : lessB m l = true) (hb : b = true → m = [8, 0, 8, 5, 7, 7, 4, 5, 8, 6, 3, 0, 2, 7, 3, 3, 2, 2, 9]) (hb' : b = false → m = [7, 0, 8, 5, 7, 7, 4, 5, 8, 6, 3, 0, 2, 7, 3, 3, 2, 2, 9]) :
    Runs Try.prog 104 [.d (.agg [.v (.bool b), .slc 1 (digD l)])] [] (.d (.tup [I64 0, .v (.bool false)])) [] := by
  have r := run162 m l hsm hs (by omega) (by omega)
  rw [hll] at r
  clear hll hs hsm
  have hlen := dig_len l
  cases b with
  | true =>
    obtain rfl := hb rfl
    clear hb hb'
    refine Runs.of (kit Try.prog) Try.func104 rfl rfl (by rw [Try.ntmps104]; exact of_decide_eq_true rfl) ?_; rw [Try.ntmps104, Try.results104]
    repeat' (first|((first|refine goA rfl fun K hK=>?_|refine goB rfl fun K hK=>?_|refine goC rfl rfl fun K hK=>?_|refine goD rfl rfl fun K hK=>?_);simp (dsimp:=false) only [↓gq,↓stepP,↓stepG,go_sem,hlen])|refine Pwp.seq ?_|refine Pwp.block ?_|(refine Pwp.exit ?_;simp only [thenS,blockS,if_true,if_false,reduceIte,Nat.reduceEqDiff,Nat.add_one_ne_zero,reduceCtorEq])|(refine Pwp.skip ?_;simp only [thenS,blockS])|(refine Pwp.cond rfl True.intro (fun h=>?_) (fun h=>?_)<;>(try (cases h;done))<;>(try simp only [h]))|refine Pwp.ret ?_|(refine hK _ ?_;clear hK K)|(refine hK _ _ rfl ?_;clear hK K)|(refine CallK.give (ds:=[.slc 1 (digD [8, 0, 8, 5, 7, 7, 4, 5, 8, 6, 3, 0, 2, 7, 3, 3, 2, 2, 9]), .slc 1 (digD l)]) rfl (r) (by simp) ?_)|refine CallG.off ?_|with_reducible refine Or.inl ?_|simp only [thenS,blockS]|with_reducible refine And.intro ?_ ?_|with_reducible exact True.intro|simp (dsimp:=false) only [↓gq,↓stepP,↓stepG,go_sem,hlen])
    all_goals (try (first|(intro hg;simp_all;done)|(intro hg;simp [hg];done)|exact of_decide_eq_true rfl|(cases h;done)))
    (refine Fin.data (.inr rfl) (by simp (dsimp:=false) only [↓gq,↓stepP,↓stepG,go_sem,resL]; rfl) (by simp only [and_self]) (by simp (dsimp:=false) only [↓gq,↓stepP,↓stepG,go_sem,resP,Nat.le_refl,List.take_length]; try rfl) ?_)
    exact subD_refl _
  | false =>
    obtain rfl := hb' rfl
    clear hb hb'
    refine Runs.of (kit Try.prog) Try.func104 rfl rfl (by rw [Try.ntmps104]; exact of_decide_eq_true rfl) ?_; rw [Try.ntmps104, Try.results104]
    repeat' (first|((first|refine goA rfl fun K hK=>?_|refine goB rfl fun K hK=>?_|refine goC rfl rfl fun K hK=>?_|refine goD rfl rfl fun K hK=>?_);simp (dsimp:=false) only [↓gq,↓stepP,↓stepG,go_sem,hlen])|refine Pwp.seq ?_|refine Pwp.block ?_|(refine Pwp.exit ?_;simp only [thenS,blockS,if_true,if_false,reduceIte,Nat.reduceEqDiff,Nat.add_one_ne_zero,reduceCtorEq])|(refine Pwp.skip ?_;simp only [thenS,blockS])|(refine Pwp.cond rfl True.intro (fun h=>?_) (fun h=>?_)<;>(try (cases h;done))<;>(try simp only [h]))|refine Pwp.ret ?_|(refine hK _ ?_;clear hK K)|(refine hK _ _ rfl ?_;clear hK K)|(refine CallK.give (ds:=[.slc 1 (digD [7, 0, 8, 5, 7, 7, 4, 5, 8, 6, 3, 0, 2, 7, 3, 3, 2, 2, 9]), .slc 1 (digD l)]) rfl (r) (by simp) ?_)|refine CallG.off ?_|with_reducible refine Or.inl ?_|simp only [thenS,blockS]|with_reducible refine And.intro ?_ ?_|with_reducible exact True.intro|simp (dsimp:=false) only [↓gq,↓stepP,↓stepG,go_sem,hlen])
    all_goals (try (first|(intro hg;simp_all;done)|(intro hg;simp [hg];done)|exact of_decide_eq_true rfl|(cases h;done)))
    (refine Fin.data (.inr rfl) (by simp (dsimp:=false) only [↓gq,↓stepP,↓stepG,go_sem,resL]; rfl) (by simp only [and_self]) (by simp (dsimp:=false) only [↓gq,↓stepP,↓stepG,go_sem,resP,Nat.le_refl,List.take_length]; try rfl) ?_)
    exact subD_refl _
theorem bigD_in {z : Int} (h : In64 z) : (digs z.natAbs).length ≤ 20 := by
  obtain ⟨h1, h2⟩ := h
  exact digs_length_le (by omega)
theorem run104 (z : Int) (hz : (digs z.natAbs).length ≤ 1000) : Runs Try.prog 104 [.d (bigD z)] [] (.d (.tup [I64 (if fits z = true then z else 0), .v (.bool (fits z))])) [] := by
  have hsm := small_digs z.natAbs
  have hd : digs z.natAbs = digs (val (digs z.natAbs)) := by rw [val_digs]
  have hv := val_digs z.natAbs
  cases hf : fits z with
  | true =>
    obtain ⟨g1, g2⟩ := fits_in hf
    unfold bigD
    cases hs : decide (z < 0) with
    | true =>
      have hs := of_decide_eq_true hs
      have h := run104n (digs z.natAbs) hsm hz (decide_eq_false (by omega)) hd
      rw [hv, show -(z.natAbs : Int) = z by omega] at h
      exact h
    | false =>
      have hs := of_decide_eq_false hs
      have h := run104p (digs z.natAbs) hsm hz (decide_eq_false (by omega)) hd
      rw [hv, show (z.natAbs : Int) = z by omega] at h
      exact h
  | false =>
    have hno : z < -9223372036854775808 ∨ 9223372036854775807 < z := by
      simp only [fits, Bool.and_eq_false_iff, decide_eq_false_iff_not] at hf; omega
    unfold bigD
    cases hs : decide (z < 0) with
    | true =>
      have hs := of_decide_eq_true hs
      exact run104x true [8, 0, 8, 5, 7, 7, 4, 5, 8, 6, 3, 0, 2, 7, 3, 3, 2, 2, 9] (by simp) (digs z.natAbs) hz (by rw [most2]; exact small_digs _) hsm (by rw [most2, lessB_digs]; exact decide_eq_true (by omega)) (fun _ => rfl) (by simp)
    | false =>
      have hs := of_decide_eq_false hs
      exact run104x false [7, 0, 8, 5, 7, 7, 4, 5, 8, 6, 3, 0, 2, 7, 3, 3, 2, 2, 9] (by simp) (digs z.natAbs) hz (by rw [most1]; exact small_digs _) hsm (by rw [most1, lessB_digs]; exact decide_eq_true (by omega)) (by simp) (fun _ => rfl)
def L41 (l : List Int) (i : Nat) : St := ⟨[(5, pint .i64 i), (4, .ref 17 0), (0, .d (.slc 1 (l.map I64)))], [(17, .box [.d (.v (.bool (decide (sumOf (l.take i) < 0)))), .d (.slc 1 (digD (digs (sumOf (l.take i)).natAbs)))])], 32⟩
theorem sum_small {l : List Int} (hl : l.length ≤ 1000000) (ha : ∀ a ∈ l, In64 a) {i : Nat} (hi : i ≤ l.length) : (digs (sumOf (l.take i)).natAbs).length ≤ 100 := by
  have := sumOf_bound (l := l.take i) fun a hh => ha a (List.mem_of_mem_take hh)
  rw [List.length_take, Nat.min_eq_left hi] at this
  exact Nat.le_trans (digs_length_le (k := 30) (by omega)) (by omega)
set_option maxHeartbeats 8000000 in
theorem run41 (l : List Int) (hl : l.length ≤ 1000000) (ha : ∀ a ∈ l, In64 a) : Runs Try.prog 41 [.d (.slc 1 (l.map I64))] [] (.d (.tup (if fits (sumOf l) = true then [I64 (sumOf l), I64 0] else [I64 0, I64 10]))) [] := by
  have hlm : (l.map I64).length = l.length := List.length_map ..
  refine Runs.of (kit Try.prog) Try.func41 rfl rfl (by rw [Try.ntmps41]; exact of_decide_eq_true rfl) ?_; rw [Try.ntmps41, Try.results41]
  repeat' (first|((first|refine goA rfl fun K hK=>?_|refine goB rfl fun K hK=>?_|refine goC rfl rfl fun K hK=>?_|refine goD rfl rfl fun K hK=>?_);simp (dsimp:=false) only [↓gq,↓stepP,↓stepG,go_sem])|refine Pwp.seq ?_|refine Pwp.block ?_|(refine Pwp.exit ?_;simp only [thenS,blockS,if_true,if_false,reduceIte,Nat.reduceEqDiff,Nat.add_one_ne_zero,reduceCtorEq])|(refine Pwp.skip ?_;simp only [thenS,blockS])|(refine Pwp.cond rfl True.intro (fun h=>?_) (fun h=>?_)<;>(try (cases h;done))<;>(try simp only [h]))|refine Pwp.ret ?_|(refine hK _ ?_;clear hK K)|(refine hK _ _ rfl ?_;clear hK K)|refine CallG.off ?_|with_reducible refine Or.inl ?_|simp only [thenS,blockS]|with_reducible refine And.intro ?_ ?_|with_reducible exact True.intro|simp (dsimp:=false) only [↓gq,↓stepP,↓stepG,go_sem])
  all_goals (try (first|(intro hg;simp_all;done)|(intro hg;simp [hg];done)|exact of_decide_eq_true rfl|(cases h;done)))
  refine Pwp.range l.length (S := L41 l) (Sub.view V0 (by simp [L41]) rfl (by simp [L41,sumOf,digD,digs_zero]) (by simp [L41,sumOf,digD,digs_zero])) (fun i hi => ?_) ?_
  · obtain ⟨a, hx, hxm⟩ := at_lt hi
    have hg : (l.map I64)[i]? = some (.v (.int .i64 a)) := by simp [hx]
    have c1 := dlt hi
    have w := wrap_succ (i := i) (by omega)
    have h1 := sum_small hl ha (Nat.le_of_lt hi)
    have h2 := bigD_in (ha a hxm)
    have e := sumOf_take hx
    have r103 := run103 a (ha a hxm)
    have r102 := run102 (sumOf (l.take i)) a (by omega) (by omega)
    rw [← e] at r102
    unfold L41
    repeat' (first|((first|refine goA rfl fun K hK=>?_|refine goB rfl fun K hK=>?_|refine goC rfl rfl fun K hK=>?_|refine goD rfl rfl fun K hK=>?_);simp (dsimp:=false) only [↓gq,↓stepP,↓stepG,go_sem,hg,c1,w,hlm,bigD])|refine Pwp.seq ?_|refine Pwp.block ?_|(refine Pwp.exit ?_;simp only [thenS,blockS,if_true,if_false,reduceIte,Nat.reduceEqDiff,Nat.add_one_ne_zero,reduceCtorEq])|(refine Pwp.skip ?_;simp only [thenS,blockS])|(refine Pwp.cond rfl True.intro (fun h=>?_) (fun h=>?_)<;>(try (cases h;done))<;>(try simp only [h]))|refine Pwp.ret ?_|(refine hK _ ?_;clear hK K)|(refine hK _ _ rfl ?_;clear hK K)|(refine CallK.give (ds:=[I64 a]) rfl (r103) (by simp) ?_)|(refine CallK.give (ds:=[bigD (sumOf (l.take i)), bigD a]) rfl (r102) (by simp) ?_)|refine CallG.off ?_|with_reducible refine Or.inl ?_|simp only [thenS,blockS]|with_reducible refine And.intro ?_ ?_|with_reducible exact True.intro|simp (dsimp:=false) only [↓gq,↓stepP,↓stepG,go_sem,hg,c1,w,hlm,bigD])
    all_goals (try (first|(intro hg;simp_all;done)|(intro hg;simp [hg];done)|exact of_decide_eq_true rfl|(cases h;done)))
    exact Sub.view V0 (by simp [L41]) rfl (by simp [L41]) (by simp [L41])
  · have c1 := dge (Nat.le_refl l.length)
    have et : l.take l.length = l := List.take_length
    have h1 := sum_small hl ha (Nat.le_refl _)
    rw [et] at h1
    have r104 := run104 (sumOf l) (by omega)
    unfold L41
    cases hf : fits (sumOf l) with
    | true =>
      rw [hf] at r104
      repeat' (first|((first|refine goA rfl fun K hK=>?_|refine goB rfl fun K hK=>?_|refine goC rfl rfl fun K hK=>?_|refine goD rfl rfl fun K hK=>?_);simp (dsimp:=false) only [↓gq,↓stepP,↓stepG,go_sem,c1,et,hlm,bigD])|refine Pwp.seq ?_|refine Pwp.block ?_|(refine Pwp.exit ?_;simp only [thenS,blockS,if_true,if_false,reduceIte,Nat.reduceEqDiff,Nat.add_one_ne_zero,reduceCtorEq])|(refine Pwp.skip ?_;simp only [thenS,blockS])|(refine Pwp.cond rfl True.intro (fun h=>?_) (fun h=>?_)<;>(try (cases h;done))<;>(try simp only [h]))|refine Pwp.ret ?_|(refine hK _ ?_;clear hK K)|(refine hK _ _ rfl ?_;clear hK K)|(refine CallK.give (ds:=[bigD (sumOf l)]) rfl (r104) (by simp) ?_)|refine CallG.off ?_|with_reducible refine Or.inl ?_|simp only [thenS,blockS]|with_reducible refine And.intro ?_ ?_|with_reducible exact True.intro|simp (dsimp:=false) only [↓gq,↓stepP,↓stepG,go_sem,c1,et,hlm,bigD])
      all_goals (try (first|(intro hg;simp_all;done)|(intro hg;simp [hg];done)|exact of_decide_eq_true rfl|(cases h;done)))
      (refine Fin.data (.inr rfl) (by simp (dsimp:=false) only [↓gq,↓stepP,↓stepG,go_sem,resL]; rfl) (by simp only [and_self]) (by simp (dsimp:=false) only [↓gq,↓stepP,↓stepG,go_sem,resP,Nat.le_refl,List.take_length]; try rfl) ?_)
      exact subD_refl _
    | false =>
      rw [hf] at r104
      repeat' (first|((first|refine goA rfl fun K hK=>?_|refine goB rfl fun K hK=>?_|refine goC rfl rfl fun K hK=>?_|refine goD rfl rfl fun K hK=>?_);simp (dsimp:=false) only [↓gq,↓stepP,↓stepG,go_sem,c1,et,hlm,bigD])|refine Pwp.seq ?_|refine Pwp.block ?_|(refine Pwp.exit ?_;simp only [thenS,blockS,if_true,if_false,reduceIte,Nat.reduceEqDiff,Nat.add_one_ne_zero,reduceCtorEq])|(refine Pwp.skip ?_;simp only [thenS,blockS])|(refine Pwp.cond rfl True.intro (fun h=>?_) (fun h=>?_)<;>(try (cases h;done))<;>(try simp only [h]))|refine Pwp.ret ?_|(refine hK _ ?_;clear hK K)|(refine hK _ _ rfl ?_;clear hK K)|(refine CallK.give (ds:=[bigD (sumOf l)]) rfl (r104) (by simp) ?_)|refine CallG.off ?_|with_reducible refine Or.inl ?_|simp only [thenS,blockS]|with_reducible refine And.intro ?_ ?_|with_reducible exact True.intro|simp (dsimp:=false) only [↓gq,↓stepP,↓stepG,go_sem,c1,et,hlm,bigD])
      all_goals (try (first|(intro hg;simp_all;done)|(intro hg;simp [hg];done)|exact of_decide_eq_true rfl|(cases h;done)))
      (refine Fin.data (.inr rfl) (by simp (dsimp:=false) only [↓gq,↓stepP,↓stepG,go_sem,resL]; rfl) (by simp only [and_self]) (by simp (dsimp:=false) only [↓gq,↓stepP,↓stepG,go_sem,resP,Nat.le_refl,List.take_length]; try rfl) ?_)
      exact subD_refl _
end Go.Proofs.Ytdodgbhodkcckaa.Pv
end
section
set_option linter.unusedVariables false
set_option linter.unusedSimpArgs false
set_option autoImplicit false
set_option maxRecDepth 100000
namespace Go.Proofs.Ytdodgbhodkcckaa.Pv
open Go Go.RowKit
def L81a (n : Nat) (l : List Line) (i : Nat) : St := ⟨[(8, pint .i64 i), (7, .own 10 0 1 0 (outs i l).length), (1, .d (.slc 4 (linesD l))), (0, pint .i64 n)], [(10, .arr 2 1 0 none ((outs i l).map I64))], 72⟩
def L81b (n : Nat) (l : List Line) (i k : Nat) : St := ⟨[(10, pint .i64 k), (9, .own 11 0 1 0 (flows i (l.take k)).length), (8, pint .i64 i), (7, .own 10 0 1 0 (outs i l).length), (1, .d (.slc 4 (linesD l))), (0, pint .i64 n)],
  [(10, .arr 2 1 0 none ((outs i l).map I64)), (11, .arr 2 1 0 none ((flows i (l.take k)).map I64))], 92⟩
set_option maxHeartbeats 16000000 in
theorem run81 (n : Int) (l : List Line) (hl : l.length ≤ 1000) : Runs Try.prog 81 [pint .i64 n, .d (.slc 4 (linesD l))] [] (.d (netsD n l)) [] := by
  have hlen := lines_len l
  have r83 := run83 n l hl
  by_cases hr : 0 ≤ n ∧ n ≤ 8
  · have c0 : (decide (n < 0) || decide (8 < n)) = false := by
      rw [Bool.or_eq_false_iff, decide_eq_false_iff_not, decide_eq_false_iff_not]; omega
    by_cases he : fitV n none l = 0
    · obtain ⟨N, rfl⟩ : ∃ N : Nat, n = (N : Int) := ⟨n.toNat, by omega⟩
      rw [he] at r83
      rw [netsV_ok (by omega) he]
      have hok := fit_ok he
      refine Runs.of (kit Try.prog) Try.func81 rfl rfl (by rw [Try.ntmps81]; exact of_decide_eq_true rfl) ?_; rw [Try.ntmps81, Try.results81]
      repeat' (first|((first|refine goA rfl fun K hK=>?_|refine goB rfl fun K hK=>?_|refine goC rfl rfl fun K hK=>?_|refine goD rfl rfl fun K hK=>?_);simp (dsimp:=false) only [↓gq,↓stepP,↓stepG,go_sem,c0,bne_self_eq_false])|refine Pwp.seq ?_|refine Pwp.block ?_|(refine Pwp.exit ?_;simp only [thenS,blockS,if_true,if_false,reduceIte,Nat.reduceEqDiff,Nat.add_one_ne_zero,reduceCtorEq])|(refine Pwp.skip ?_;simp only [thenS,blockS])|(refine Pwp.cond rfl True.intro (fun h=>?_) (fun h=>?_)<;>(try (cases h;done))<;>(try simp only [h]))|refine Pwp.ret ?_|(refine hK _ ?_;clear hK K)|(refine hK _ _ rfl ?_;clear hK K)|(refine CallK.give (ds:=[I64 N, .slc 4 (linesD l)]) rfl (r83) (by simp) ?_)|refine CallG.off ?_|with_reducible refine Or.inl ?_|simp only [thenS,blockS]|with_reducible refine And.intro ?_ ?_|with_reducible exact True.intro|simp (dsimp:=false) only [↓gq,↓stepP,↓stepG,go_sem,c0,bne_self_eq_false])
      all_goals (try (first|(intro hg;simp [hg];done)|exact of_decide_eq_true rfl|(cases h;done)))
      refine Pwp.range N (S := L81a N l) (Sub.view (VN 10) (by simp [L81a]) rfl (by simp [L81a,outs]) (by simp [L81a,outs])) (fun i hi => ?_) ?_
      · have c1 := dlt hi
        have w := wrap_succ (i := i) (by omega)
        have hol := outs_len i l
        unfold L81a
        repeat' (first|((first|refine goA rfl fun K hK=>?_|refine goB rfl fun K hK=>?_|refine goC rfl rfl fun K hK=>?_|refine goD rfl rfl fun K hK=>?_);simp (dsimp:=false) only [↓gq,↓stepP,↓stepG,go_sem,c1])|refine Pwp.seq ?_|refine Pwp.block ?_|(refine Pwp.exit ?_;simp only [thenS,blockS,if_true,if_false,reduceIte,Nat.reduceEqDiff,Nat.add_one_ne_zero,reduceCtorEq])|(refine Pwp.skip ?_;simp only [thenS,blockS])|(refine Pwp.cond rfl True.intro (fun h=>?_) (fun h=>?_)<;>(try (cases h;done))<;>(try simp only [h]))|refine Pwp.ret ?_|(refine hK _ ?_;clear hK K)|(refine hK _ _ rfl ?_;clear hK K)|refine CallG.off ?_|with_reducible refine Or.inl ?_|simp only [thenS,blockS]|with_reducible refine And.intro ?_ ?_|with_reducible exact True.intro|simp (dsimp:=false) only [↓gq,↓stepP,↓stepG,go_sem,c1])
        all_goals (try (first|(intro hg;simp [hg];done)|exact of_decide_eq_true rfl|(cases h;done)))
        refine Pwp.range l.length (S := L81b N l i) (Sub.view (VN 11) (by simp [L81b]) rfl (by simp [L81b,flows]) (by simp [L81b,flows])) (fun k hk => ?_) ?_
        · obtain ⟨x, hx, hm⟩ := at_lt hk
          have hg := lines_get hx
          have c2 := dlt hk
          have w2 := wrap_succ (i := k) (by omega)
          have hxo := hok x hm
          have e := flows_take (j := i) hx
          have hfl := flows_len i (l.take k)
          rw [List.length_take, Nat.min_eq_left (Nat.le_of_lt hk)] at hfl
          have htk : ((flows i (l.take k)).map I64).take (flows i (l.take k)).length = (flows i (l.take k)).map I64 := List.take_of_length_le (by simp)
          have hng : IntKind.wrap .i64 (-x.amount) = -x.amount := wrap_of (by have := hxo.a; omega) (by have := hxo.a; omega)
          have hng0 : IntKind.wrap .i64 (0 - x.amount) = -x.amount := by rw [Int.zero_sub]; exact hng
          unfold L81b
          cases hs : (x.seller == (i : Int)) with
          | true =>
            have hs' : x.seller = i := by simpa using hs
            have hb : (x.buyer == (i : Int)) = false := by have := hxo.sb; simp; omega
            rw [flow1, if_pos hs'] at e
            repeat' (first|((first|refine goA rfl fun K hK=>?_|refine goB rfl fun K hK=>?_|refine goC rfl rfl fun K hK=>?_|refine goD rfl rfl fun K hK=>?_);simp (dsimp:=false) only [↓gq,↓stepP,↓stepG,go_sem,hg,c2,w2,hlen,hs,hb,htk])|refine Pwp.seq ?_|refine Pwp.block ?_|(refine Pwp.exit ?_;simp only [thenS,blockS,if_true,if_false,reduceIte,Nat.reduceEqDiff,Nat.add_one_ne_zero,reduceCtorEq])|(refine Pwp.skip ?_;simp only [thenS,blockS])|(refine Pwp.cond rfl True.intro (fun h=>?_) (fun h=>?_)<;>(try (cases h;done))<;>(try simp only [h]))|refine Pwp.ret ?_|(refine hK _ ?_;clear hK K)|(refine hK _ _ rfl ?_;clear hK K)|refine CallG.off ?_|with_reducible refine Or.inl ?_|simp only [thenS,blockS]|with_reducible refine And.intro ?_ ?_|with_reducible exact True.intro|simp (dsimp:=false) only [↓gq,↓stepP,↓stepG,go_sem,hg,c2,w2,hlen,hs,hb,htk])
            all_goals (try (first|(intro hg;simp [hg];done)|exact of_decide_eq_true rfl|(cases h;done)))
            all_goals (try (first | (simp; done) | (simp [maxLen]; omega) | omega))
            exact Sub.view (VR 11 1) (by simp [L81b]) rfl (by simp [L81b,e,map_snoc]) (by simp [L81b,e,map_snoc])
          | false =>
            have hs' : ¬ x.seller = i := by simpa using hs
            rw [flow1, if_neg hs'] at e
            cases hb : (x.buyer == (i : Int)) with
            | true =>
              have hb' : x.buyer = i := by simpa using hb
              rw [if_pos hb'] at e
              repeat' (first|((first|refine goA rfl fun K hK=>?_|refine goB rfl fun K hK=>?_|refine goC rfl rfl fun K hK=>?_|refine goD rfl rfl fun K hK=>?_);simp (dsimp:=false) only [↓gq,↓stepP,↓stepG,go_sem,hg,c2,w2,hlen,hs,hb,htk,hng,hng0])|refine Pwp.seq ?_|refine Pwp.block ?_|(refine Pwp.exit ?_;simp only [thenS,blockS,if_true,if_false,reduceIte,Nat.reduceEqDiff,Nat.add_one_ne_zero,reduceCtorEq])|(refine Pwp.skip ?_;simp only [thenS,blockS])|(refine Pwp.cond rfl True.intro (fun h=>?_) (fun h=>?_)<;>(try (cases h;done))<;>(try simp only [h]))|refine Pwp.ret ?_|(refine hK _ ?_;clear hK K)|(refine hK _ _ rfl ?_;clear hK K)|refine CallG.off ?_|with_reducible refine Or.inl ?_|simp only [thenS,blockS]|with_reducible refine And.intro ?_ ?_|with_reducible exact True.intro|simp (dsimp:=false) only [↓gq,↓stepP,↓stepG,go_sem,hg,c2,w2,hlen,hs,hb,htk,hng,hng0])
              all_goals (try (first|(intro hg;simp [hg];done)|exact of_decide_eq_true rfl|(cases h;done)))
              all_goals (try (first | (simp; done) | (simp [maxLen]; omega) | omega))
              exact Sub.view (VR 11 1) (by simp [L81b]) rfl (by simp [L81b,e,map_snoc]) (by simp [L81b,e,map_snoc])
            | false =>
              have hb' : ¬ x.buyer = i := by simpa using hb
              rw [if_neg hb', List.append_nil] at e
              repeat' (first|((first|refine goA rfl fun K hK=>?_|refine goB rfl fun K hK=>?_|refine goC rfl rfl fun K hK=>?_|refine goD rfl rfl fun K hK=>?_);simp (dsimp:=false) only [↓gq,↓stepP,↓stepG,go_sem,hg,c2,w2,hlen,hs,hb])|refine Pwp.seq ?_|refine Pwp.block ?_|(refine Pwp.exit ?_;simp only [thenS,blockS,if_true,if_false,reduceIte,Nat.reduceEqDiff,Nat.add_one_ne_zero,reduceCtorEq])|(refine Pwp.skip ?_;simp only [thenS,blockS])|(refine Pwp.cond rfl True.intro (fun h=>?_) (fun h=>?_)<;>(try (cases h;done))<;>(try simp only [h]))|refine Pwp.ret ?_|(refine hK _ ?_;clear hK K)|(refine hK _ _ rfl ?_;clear hK K)|refine CallG.off ?_|with_reducible refine Or.inl ?_|simp only [thenS,blockS]|with_reducible refine And.intro ?_ ?_|with_reducible exact True.intro|simp (dsimp:=false) only [↓gq,↓stepP,↓stepG,go_sem,hg,c2,w2,hlen,hs,hb])
              all_goals (try (first|(intro hg;simp [hg];done)|exact of_decide_eq_true rfl|(cases h;done)))
              exact Sub.view V0 (by simp [L81b]) rfl (by simp [L81b,e]) (by simp [L81b,e])
        · have c2 := dge (Nat.le_refl l.length)
          have et : l.take l.length = l := List.take_length
          have hfl := flows_len i l
          have hin := flows_in (j := (i : Int)) hok
          have hni := netL_in (j := (i : Int)) hok hl
          have r41 := run41 (flows i l) (by omega) (fun a ha => by have := hin a ha; simp [In64]; omega)
          rw [if_pos (In64.fits (by unfold netL at hni; simp [In64]; omega))] at r41
          change Runs Try.prog 41 _ _ (.d (.tup [I64 (netL i l), I64 0])) _ at r41
          have hml : (flows i l).length = ((flows i l).map I64).length := by simp
          have htk : ((outs i l).map I64).take (outs i l).length = (outs i l).map I64 := List.take_of_length_le (by simp)
          have e := outs_succ i l
          unfold L81b
          rw [et]
          repeat' (first|((first|refine goA rfl fun K hK=>?_|refine goB rfl fun K hK=>?_|refine goC rfl rfl fun K hK=>?_|refine goD rfl rfl fun K hK=>?_);simp (dsimp:=false) only [↓gq,↓stepP,↓stepG,go_sem,c2,hlen,w,htk,bne_self_eq_false])|refine Pwp.seq ?_|refine Pwp.block ?_|(refine Pwp.exit ?_;simp only [thenS,blockS,if_true,if_false,reduceIte,Nat.reduceEqDiff,Nat.add_one_ne_zero,reduceCtorEq])|(refine Pwp.skip ?_;simp only [thenS,blockS])|(refine Pwp.cond rfl True.intro (fun h=>?_) (fun h=>?_)<;>(try (cases h;done))<;>(try simp only [h]))|refine Pwp.ret ?_|(refine hK _ ?_;clear hK K)|(refine hK _ _ rfl ?_;clear hK K)|(refine CallK.giveO rfl hml r41 (by simp) ?_)|refine CallG.off ?_|with_reducible refine Or.inl ?_|simp only [thenS,blockS]|with_reducible refine And.intro ?_ ?_|with_reducible exact True.intro|simp (dsimp:=false) only [↓gq,↓stepP,↓stepG,go_sem,c2,hlen,w,htk,bne_self_eq_false])
          all_goals (try (first|(intro hg;simp [hg];done)|exact of_decide_eq_true rfl|(cases h;done)))
          all_goals (try (first | (simp; done) | (simp [maxLen]; omega) | omega))
          exact Sub.view (VR 10 1) (by simp [L81a]) rfl (by simp [L81a,e,map_snoc]) (by simp [L81a,e,map_snoc])
      · have c1 := dge (Nat.le_refl N)
        have hol := outs_len N l
        have htk : ((outs N l).map I64).take (outs N l).length = (outs N l).map I64 := List.take_of_length_le (by simp)
        have hlm : ((outs N l).map I64).length = (outs N l).length := List.length_map ..
        unfold L81a
        repeat' (first|((first|refine goA rfl fun K hK=>?_|refine goB rfl fun K hK=>?_|refine goC rfl rfl fun K hK=>?_|refine goD rfl rfl fun K hK=>?_);simp (dsimp:=false) only [↓gq,↓stepP,↓stepG,go_sem,c1])|refine Pwp.seq ?_|refine Pwp.block ?_|(refine Pwp.exit ?_;simp only [thenS,blockS,if_true,if_false,reduceIte,Nat.reduceEqDiff,Nat.add_one_ne_zero,reduceCtorEq])|(refine Pwp.skip ?_;simp only [thenS,blockS])|(refine Pwp.cond rfl True.intro (fun h=>?_) (fun h=>?_)<;>(try (cases h;done))<;>(try simp only [h]))|refine Pwp.ret ?_|(refine hK _ ?_;clear hK K)|(refine hK _ _ rfl ?_;clear hK K)|refine CallG.off ?_|with_reducible refine Or.inl ?_|simp only [thenS,blockS]|with_reducible refine And.intro ?_ ?_|with_reducible exact True.intro|simp (dsimp:=false) only [↓gq,↓stepP,↓stepG,go_sem,c1])
        all_goals (try (first|(intro hg;simp [hg];done)|exact of_decide_eq_true rfl|(cases h;done)))
        (refine Fin.data (.inr rfl) (by simp (dsimp:=false) only [↓gq,↓stepP,↓stepG,go_sem,resL,htk,hlm]; rfl) (by simp only [and_self]) (by simp (dsimp:=false) only [↓gq,↓stepP,↓stepG,go_sem,resP,Nat.le_refl,List.take_length,htk,hlm]; try rfl) ?_)
        exact subD_refl _
    · have hE : netsE n l = fitV n none l := by unfold netsE; rw [c0]; simp
      rw [netsV_bad (by rw [hE]; exact he), hE]
      have n1 : (fitV n none l != 0) = true := by simpa using he
      refine Runs.of (kit Try.prog) Try.func81 rfl rfl (by rw [Try.ntmps81]; exact of_decide_eq_true rfl) ?_; rw [Try.ntmps81, Try.results81]
      repeat' (first|((first|refine goA rfl fun K hK=>?_|refine goB rfl fun K hK=>?_|refine goC rfl rfl fun K hK=>?_|refine goD rfl rfl fun K hK=>?_);simp (dsimp:=false) only [↓gq,↓stepP,↓stepG,go_sem,c0,n1])|refine Pwp.seq ?_|refine Pwp.block ?_|(refine Pwp.exit ?_;simp only [thenS,blockS,if_true,if_false,reduceIte,Nat.reduceEqDiff,Nat.add_one_ne_zero,reduceCtorEq])|(refine Pwp.skip ?_;simp only [thenS,blockS])|(refine Pwp.cond rfl True.intro (fun h=>?_) (fun h=>?_)<;>(try (cases h;done))<;>(try simp only [h]))|refine Pwp.ret ?_|(refine hK _ ?_;clear hK K)|(refine hK _ _ rfl ?_;clear hK K)|(refine CallK.give (ds:=[I64 n, .slc 4 (linesD l)]) rfl (r83) (by simp) ?_)|refine CallG.off ?_|with_reducible refine Or.inl ?_|simp only [thenS,blockS]|with_reducible refine And.intro ?_ ?_|with_reducible exact True.intro|simp (dsimp:=false) only [↓gq,↓stepP,↓stepG,go_sem,c0,n1])
      all_goals (try (first|(intro hg;simp [hg];done)|exact of_decide_eq_true rfl|(cases h;done)))
      (refine Fin.data (.inr rfl) (by simp (dsimp:=false) only [↓gq,↓stepP,↓stepG,go_sem,resL]; rfl) (by simp only [and_self]) (by simp (dsimp:=false) only [↓gq,↓stepP,↓stepG,go_sem,resP,Nat.le_refl,List.take_length]; try rfl) ?_)
      simp [subD, subL, subV]
  · have c0 : (decide (n < 0) || decide (8 < n)) = true := by
      rw [Bool.or_eq_true, decide_eq_true_eq, decide_eq_true_eq]; omega
    have hE : netsE n l = 1 := by unfold netsE; rw [c0]; simp
    rw [netsV_bad (by rw [hE]; simp), hE]
    refine Runs.of (kit Try.prog) Try.func81 rfl rfl (by rw [Try.ntmps81]; exact of_decide_eq_true rfl) ?_; rw [Try.ntmps81, Try.results81]
    repeat' (first|((first|refine goA rfl fun K hK=>?_|refine goB rfl fun K hK=>?_|refine goC rfl rfl fun K hK=>?_|refine goD rfl rfl fun K hK=>?_);simp (dsimp:=false) only [↓gq,↓stepP,↓stepG,go_sem,c0])|refine Pwp.seq ?_|refine Pwp.block ?_|(refine Pwp.exit ?_;simp only [thenS,blockS,if_true,if_false,reduceIte,Nat.reduceEqDiff,Nat.add_one_ne_zero,reduceCtorEq])|(refine Pwp.skip ?_;simp only [thenS,blockS])|(refine Pwp.cond rfl True.intro (fun h=>?_) (fun h=>?_)<;>(try (cases h;done))<;>(try simp only [h]))|refine Pwp.ret ?_|(refine hK _ ?_;clear hK K)|(refine hK _ _ rfl ?_;clear hK K)|refine CallG.off ?_|with_reducible refine Or.inl ?_|simp only [thenS,blockS]|with_reducible refine And.intro ?_ ?_|with_reducible exact True.intro|simp (dsimp:=false) only [↓gq,↓stepP,↓stepG,go_sem,c0])
    all_goals (try (first|(intro hg;simp [hg];done)|exact of_decide_eq_true rfl|(cases h;done)))
    (refine Fin.data (.inr rfl) (by simp (dsimp:=false) only [↓gq,↓stepP,↓stepG,go_sem,resL]; rfl) (by simp only [and_self]) (by simp (dsimp:=false) only [↓gq,↓stepP,↓stepG,go_sem,resP,Nat.le_refl,List.take_length]; try rfl) ?_)
    simp [subD, subL, subV]
end Go.Proofs.Ytdodgbhodkcckaa.Pv
end
section
set_option linter.unusedVariables false
set_option linter.unusedSimpArgs false
set_option autoImplicit false
set_option maxRecDepth 100000
namespace Go.Proofs.Ytdodgbhodkcckaa.Pv
open Go Go.RowKit
def boxQ (q : VP) : PObj := .box [.d (I64 q.me), .d (I64 q.n), .d (.slc 4 (partsN q.list))]
def boxR (w : List Item) : PObj := .box [.d (I64 0), .d (I64 0), .d (.slc 8 (itemsD w)), .d (.slc 3 (ordersD []))]
def boxV (m : VMsg) : PObj := .box [.d (I64 m.kind), .d (I64 m.seller), .d (I64 m.number), .d (I64 m.buyer), .d (I64 m.currency), .d (I64 m.round), .d (I64 m.cycle), .d (I64 m.amount), .d (.v (.bool m.yes)), .d (.slc 4 (linesD m.ls)), .d (.slc 1 (m.ns.map I64))]
def L128a (q : VP) (w : List Item) (m : VMsg) (os : List Int) (i : Nat) : St := ⟨[(9, pint .i64 i), (7, .d (.slc 1 (os.map I64))), (5, .ref 10 0), (4, .ref 9 0), (3, .ref 8 0)], [(8, boxQ q), (9, boxR w), (10, boxV m)], 112⟩
def L128b (q : VP) (w : List Item) (m : VMsg) (i : Nat) : St := ⟨[(10, pint .i64 i), (5, .ref 10 0), (4, .ref 9 0), (3, .ref 8 0)], [(8, boxQ q), (9, boxR w), (10, boxV m)], 184⟩
theorem mine_allB {me : Int} {ls : List Line} {f : Line → Bool} : (mineL me ls).all f = true ↔ ∀ x ∈ ls, notMine me x = false → f x = true := by
  unfold mineL
  rw [List.all_eq_true]
  constructor
  · intro h x hx hn; exact h x (List.mem_filter.2 ⟨hx, by rw [hn]; rfl⟩)
  · intro h x hx
    obtain ⟨h1, h2⟩ := List.mem_filter.1 hx
    exact h x h1 (by simpa using h2)
set_option maxHeartbeats 64000000 in
theorem run128 (q p : VP) (hme : q.me = p.me) (hn : q.n = p.n) (bk : Int) (l w : List Item) (m : VMsg) (hR : RelI bk l w) (hw : w.length ≤ 10000) (hls : m.ls.length ≤ 1000) (hns : m.ns.length ≤ 1000) (hin : ∀ x ∈ m.ls, In64 x.number) :
    Runs Try.prog 128 [.d q.dN, .d (rdD w).d, .d m.msg.d] [] (pbool (rightR p l m.cycle m.ls m.ns)) [] := by
  have r81 := run81 m.ns.length m.ls hls
  have hnl : (m.ns.map I64).length = m.ns.length := by simp
  have hll := lines_len m.ls
  unfold rightR badNets
  rw [← hme, ← hn]
  unfold netsD at r81
  cases hc : ((m.ns.length : Int) != q.n || netsE m.ns.length m.ls != 0) with
  | true =>
    have hb : ((m.ns.length : Int) != q.n || rightE m.ls m.ns != 0) = true := by
      rw [Bool.or_eq_true] at hc ⊢
      rcases hc with hc | hc
      · exact .inl hc
      · refine .inr ?_
        rw [bne_iff_ne] at hc ⊢
        unfold rightE; rw [if_pos hc]; exact hc
    rw [hb]
    generalize netsE m.ns.length m.ls = ne at *
    generalize (netsV m.ns.length m.ls).map I64 = nv at *
    unfold VP.dN rdD RDesk.d RDesk.cells VMsg.msg Msg.d Msg.cells
    refine Runs.of (kit Try.prog) Try.func128 rfl rfl (by rw [Try.ntmps128]; exact of_decide_eq_true rfl) ?_; rw [Try.ntmps128, Try.results128]
    repeat' (first|((first|refine goA rfl fun K hK=>?_|refine goB rfl fun K hK=>?_|refine goC rfl rfl fun K hK=>?_|refine goD rfl rfl fun K hK=>?_);simp (dsimp:=false) only [↓gq,↓stepP,↓stepG,go_sem,hc,hnl])|refine Pwp.seq ?_|refine Pwp.block ?_|(refine Pwp.exit ?_;simp only [thenS,blockS,if_true,if_false,reduceIte,Nat.reduceEqDiff,Nat.add_one_ne_zero,reduceCtorEq])|(refine Pwp.skip ?_;simp only [thenS,blockS])|(refine Pwp.cond rfl True.intro (fun h=>?_) (fun h=>?_)<;>(try (cases h;done))<;>(try simp only [h]))|refine Pwp.ret ?_|(refine hK _ ?_;clear hK K)|(refine hK _ _ rfl ?_;clear hK K)|(refine CallK.give (ds:=[I64 m.ns.length, .slc 4 (linesD m.ls)]) rfl (r81) (by simp) ?_)|refine CallG.off ?_|with_reducible refine Or.inl ?_|simp only [thenS,blockS]|with_reducible refine And.intro ?_ ?_|with_reducible exact True.intro|simp (dsimp:=false) only [↓gq,↓stepP,↓stepG,go_sem,hc,hnl])
    all_goals (try (first|(intro hg;simp [hg];done)|exact of_decide_eq_true rfl|(cases h;done)))
    all_goals (try (intro hg; simp only [hg, Bool.not_false, Bool.not_true, Bool.and_self, Bool.true_and, Bool.and_true, true_and, and_self, imp_self, implies_true]; done))
    (refine Fin.data (.inr rfl) (by simp (dsimp:=false) only [↓gq,↓stepP,↓stepG,go_sem,resL]; rfl) (by simp only [and_self]) (by simp (dsimp:=false) only [↓gq,↓stepP,↓stepG,go_sem,resP,Nat.le_refl,List.take_length]; try rfl) ?_)
    exact subD_refl _
  | false =>
    have hc2 := hc
    simp only [Bool.or_eq_false_iff, bne_eq_false_iff_eq] at hc2
    obtain ⟨hq1, hq2⟩ := hc2
    have hv : netsV m.ns.length m.ls = outs m.ns.length m.ls := by unfold netsV; rw [if_pos hq2]; simp
    have hre : rightE m.ls m.ns = if outs m.ns.length m.ls = m.ns then 0 else 10 := by unfold rightE; rw [if_neg (by simp [hq2])]
    have hol := outs_len m.ns.length m.ls
    rw [hv] at r81
    rw [hre]
    generalize outs m.ns.length m.ls = os at *
    have hom : (os.map I64).length = os.length := by simp
    generalize netsE m.ns.length m.ls = ne at *
    unfold VP.dN rdD RDesk.d RDesk.cells VMsg.msg Msg.d Msg.cells
    refine Runs.of (kit Try.prog) Try.func128 rfl rfl (by rw [Try.ntmps128]; exact of_decide_eq_true rfl) ?_; rw [Try.ntmps128, Try.results128]
    repeat' (first|((first|refine goA rfl fun K hK=>?_|refine goB rfl fun K hK=>?_|refine goC rfl rfl fun K hK=>?_|refine goD rfl rfl fun K hK=>?_);simp (dsimp:=false) only [↓gq,↓stepP,↓stepG,go_sem,hc,hnl,hom])|refine Pwp.seq ?_|refine Pwp.block ?_|(refine Pwp.exit ?_;simp only [thenS,blockS,if_true,if_false,reduceIte,Nat.reduceEqDiff,Nat.add_one_ne_zero,reduceCtorEq])|(refine Pwp.skip ?_;simp only [thenS,blockS])|(refine Pwp.cond rfl True.intro (fun h=>?_) (fun h=>?_)<;>(try (cases h;done))<;>(try simp only [h]))|refine Pwp.ret ?_|(refine hK _ ?_;clear hK K)|(refine hK _ _ rfl ?_;clear hK K)|(refine CallK.give (ds:=[I64 m.ns.length, .slc 4 (linesD m.ls)]) rfl (r81) (by simp) ?_)|refine CallG.off ?_|with_reducible refine Or.inl ?_|simp only [thenS,blockS]|with_reducible refine And.intro ?_ ?_|with_reducible exact True.intro|simp (dsimp:=false) only [↓gq,↓stepP,↓stepG,go_sem,hc,hnl,hom])
    all_goals (try (first|(intro hg;simp [hg];done)|exact of_decide_eq_true rfl|(cases h;done)))
    refine Pwp.rangeI os.length (fun i s => os.take i = m.ns.take i ∧ s = L128a q w m os i) (s0 := L128a q w m os 0) (Sub.view V0 (by simp [L128a]) rfl (by simp [L128a,boxQ,boxR,boxV]) (by simp [L128a,boxQ,boxR,boxV])) ⟨by simp, rfl⟩ ?_ ?_
    · rintro i s hi ⟨hok, rfl⟩
      obtain ⟨a, ha, _⟩ := at_lt hi
      obtain ⟨b, hb, _⟩ := at_lt (l := m.ns) (i := i) (by omega)
      have ga : (os.map I64)[i]? = some (I64 a) := by simp [ha]
      have gb : (m.ns.map I64)[i]? = some (I64 b) := by simp [hb]
      have c1 := dlt hi
      have w1 := wrap_succ (i := i) (by omega)
      by_cases hab : a = b
      · have e1 : (a != b) = false := by simp [hab]
        have hok' : os.take (i + 1) = m.ns.take (i + 1) := by rw [List.take_add_one, List.take_add_one, hok, ha, hb, hab]
        unfold L128a boxQ boxR boxV
        repeat' (first|((first|refine goA rfl fun K hK=>?_|refine goB rfl fun K hK=>?_|refine goC rfl rfl fun K hK=>?_|refine goD rfl rfl fun K hK=>?_);simp (dsimp:=false) only [↓gq,↓stepP,↓stepG,go_sem,ga,gb,c1,w1,e1,hom])|refine Pwp.seq ?_|refine Pwp.block ?_|(refine Pwp.exit ?_;simp only [thenS,blockS,if_true,if_false,reduceIte,Nat.reduceEqDiff,Nat.add_one_ne_zero,reduceCtorEq])|(refine Pwp.skip ?_;simp only [thenS,blockS])|(refine Pwp.cond rfl True.intro (fun h=>?_) (fun h=>?_)<;>(try (cases h;done))<;>(try simp only [h]))|refine Pwp.ret ?_|(refine hK _ ?_;clear hK K)|(refine hK _ _ rfl ?_;clear hK K)|refine CallG.off ?_|with_reducible refine Or.inl ?_|simp only [thenS,blockS]|with_reducible refine And.intro ?_ ?_|with_reducible exact True.intro|simp (dsimp:=false) only [↓gq,↓stepP,↓stepG,go_sem,ga,gb,c1,w1,e1,hom])
        all_goals (try (first|(intro hg;simp [hg];done)|exact of_decide_eq_true rfl|(cases h;done)))
        exact ⟨_, Sub.view V0 (by simp [L128a]) rfl (by simp [L128a,boxQ,boxR,boxV]) (by simp [L128a,boxQ,boxR,boxV]), hok', rfl⟩
      · have e1 : (a != b) = true := by simpa using hab
        have hne : os ≠ m.ns := fun e => by rw [e, hb] at ha; cases ha; exact hab rfl
        rw [if_neg hne]
        have hf : (!((m.ns.length : Int) != q.n || (10 : Int) != 0)) = false := by simp
        rw [hf, Bool.false_and]
        unfold L128a boxQ boxR boxV
        repeat' (first|((first|refine goA rfl fun K hK=>?_|refine goB rfl fun K hK=>?_|refine goC rfl rfl fun K hK=>?_|refine goD rfl rfl fun K hK=>?_);simp (dsimp:=false) only [↓gq,↓stepP,↓stepG,go_sem,ga,gb,c1,w1,e1,hom])|refine Pwp.seq ?_|refine Pwp.block ?_|(refine Pwp.exit ?_;simp only [thenS,blockS,if_true,if_false,reduceIte,Nat.reduceEqDiff,Nat.add_one_ne_zero,reduceCtorEq])|(refine Pwp.skip ?_;simp only [thenS,blockS])|(refine Pwp.cond rfl True.intro (fun h=>?_) (fun h=>?_)<;>(try (cases h;done))<;>(try simp only [h]))|refine Pwp.ret ?_|(refine hK _ ?_;clear hK K)|(refine hK _ _ rfl ?_;clear hK K)|refine CallG.off ?_|with_reducible refine Or.inl ?_|simp only [thenS,blockS]|with_reducible refine And.intro ?_ ?_|with_reducible exact True.intro|simp (dsimp:=false) only [↓gq,↓stepP,↓stepG,go_sem,ga,gb,c1,w1,e1,hom])
        all_goals (try (first|(intro hg;simp [hg];done)|exact of_decide_eq_true rfl|(cases h;done)))
        (refine Fin.data (.inr rfl) (by simp (dsimp:=false) only [↓gq,↓stepP,↓stepG,go_sem,resL]; rfl) (by simp only [and_self]) (by simp (dsimp:=false) only [↓gq,↓stepP,↓stepG,go_sem,resP,Nat.le_refl,List.take_length]; try rfl) ?_)
        exact subD_refl _
    · rintro s ⟨hok, rfl⟩
      have c1 := dge (Nat.le_refl os.length)
      have he : os = m.ns := by rw [List.take_length, hol, List.take_length] at hok; exact hok
      rw [if_pos he]
      have hf : (!((m.ns.length : Int) != q.n || (0 : Int) != 0)) = true := by rw [hq1]; simp
      rw [hf, Bool.true_and]
      unfold L128a boxQ boxR boxV
      repeat' (first|((first|refine goA rfl fun K hK=>?_|refine goB rfl fun K hK=>?_|refine goC rfl rfl fun K hK=>?_|refine goD rfl rfl fun K hK=>?_);simp (dsimp:=false) only [↓gq,↓stepP,↓stepG,go_sem,c1,hom,hll])|refine Pwp.seq ?_|refine Pwp.block ?_|(refine Pwp.exit ?_;simp only [thenS,blockS,if_true,if_false,reduceIte,Nat.reduceEqDiff,Nat.add_one_ne_zero,reduceCtorEq])|(refine Pwp.skip ?_;simp only [thenS,blockS])|(refine Pwp.cond rfl True.intro (fun h=>?_) (fun h=>?_)<;>(try (cases h;done))<;>(try simp only [h]))|refine Pwp.ret ?_|(refine hK _ ?_;clear hK K)|(refine hK _ _ rfl ?_;clear hK K)|refine CallG.off ?_|with_reducible refine Or.inl ?_|simp only [thenS,blockS]|with_reducible refine And.intro ?_ ?_|with_reducible exact True.intro|simp (dsimp:=false) only [↓gq,↓stepP,↓stepG,go_sem,c1,hom,hll])
      all_goals (try (first|(intro hg;simp [hg];done)|exact of_decide_eq_true rfl|(cases h;done)))
      refine Pwp.rangeI m.ls.length (fun i s => (∀ x ∈ m.ls.take i, notMine q.me x = false → badLn l m.cycle x = false) ∧ s = L128b q w m i) (s0 := L128b q w m 0) (Sub.view V0 (by simp [L128b]) rfl (by simp [L128b,boxQ,boxR,boxV]) (by simp [L128b,boxQ,boxR,boxV])) ⟨by simp, rfl⟩ ?_ ?_
      · rintro i s hi ⟨hok2, rfl⟩
        obtain ⟨x, hx, hm⟩ := at_lt hi
        have hg := lines_get hx
        have c2 := dlt hi
        have w2 := wrap_succ (i := i) (by omega)
        have grow : (notMine q.me x = false → badLn l m.cycle x = false) → ∀ y ∈ m.ls.take (i + 1), notMine q.me y = false → badLn l m.cycle y = false := by
          intro hq y hy
          rw [List.take_add_one, hx] at hy
          rcases List.mem_append.1 hy with hy | hy
          · exact hok2 y hy
          · obtain rfl := by simpa using hy
            exact hq
        cases hnm : notMine q.me x with
        | true =>
          have hok' := grow (fun h => by rw [hnm] at h; cases h)
          unfold notMine at hnm
          unfold L128b boxQ boxR boxV
          repeat' (first|((first|refine goA rfl fun K hK=>?_|refine goB rfl fun K hK=>?_|refine goC rfl rfl fun K hK=>?_|refine goD rfl rfl fun K hK=>?_);simp (dsimp:=false) only [↓gq,↓stepP,↓stepG,go_sem,hg,c2,w2,hnm,hll])|refine Pwp.seq ?_|refine Pwp.block ?_|(refine Pwp.exit ?_;simp only [thenS,blockS,if_true,if_false,reduceIte,Nat.reduceEqDiff,Nat.add_one_ne_zero,reduceCtorEq])|(refine Pwp.skip ?_;simp only [thenS,blockS])|(refine Pwp.cond rfl True.intro (fun h=>?_) (fun h=>?_)<;>(try (cases h;done))<;>(try simp only [h]))|refine Pwp.ret ?_|(refine hK _ ?_;clear hK K)|(refine hK _ _ rfl ?_;clear hK K)|refine CallG.off ?_|with_reducible refine Or.inl ?_|simp only [thenS,blockS]|with_reducible refine And.intro ?_ ?_|with_reducible exact True.intro|simp (dsimp:=false) only [↓gq,↓stepP,↓stepG,go_sem,hg,c2,w2,hnm,hll])
          all_goals (try (first|(intro hg;simp [hg];done)|exact of_decide_eq_true rfl|(cases h;done)))
          exact ⟨_, Sub.view V0 (by simp [L128b]) rfl (by simp [L128b,boxQ,boxR,boxV]) (by simp [L128b,boxQ,boxR,boxV]), hok', rfl⟩
        | false =>
          have r181 := run181 (rdD w) x.seller x.number (by simp only [rdD]; omega)
          simp only [rdD, RDesk.d, RDesk.cells] at r181
          have bad : badLn l m.cycle x = true → ((mineL q.me m.ls).all fun x => !badLn l m.cycle x) = false := fun h => by
            cases hall : ((mineL q.me m.ls).all fun x => !badLn l m.cycle x) with
            | false => rfl
            | true => have := mine_allB.1 hall x hm hnm; rw [h] at this; cases this
          rcases rel_has hR (s := x.seller) (n := x.number) (hin x hm) with ⟨h1, h2, _⟩ | ⟨k, y, h1, h2, h3, h4, _⟩
          · rw [h1] at r181
            have hbd : badLn l m.cycle x = true := by unfold badLn; rw [h2]; rfl
            rw [bad hbd]
            have cm : decide ((-1 : Int) < 0) = true := rfl
            unfold notMine at hnm
            cases hw0 : w[0]? with
            | none =>
              have g0 : (itemsD w)[0]? = none := by simp [itemsD, hw0]
              unfold L128b boxQ boxR boxV
              repeat' (first|((first|refine goA rfl fun K hK=>?_|refine goB rfl fun K hK=>?_|refine goC rfl rfl fun K hK=>?_|refine goD rfl rfl fun K hK=>?_);simp (dsimp:=false) only [↓gq,↓stepP,↓stepG,go_sem,hg,c2,w2,hnm,hll,cm,g0,Bool.true_or])|refine Pwp.seq ?_|refine Pwp.block ?_|(refine Pwp.exit ?_;simp only [thenS,blockS,if_true,if_false,reduceIte,Nat.reduceEqDiff,Nat.add_one_ne_zero,reduceCtorEq])|(refine Pwp.skip ?_;simp only [thenS,blockS])|(refine Pwp.cond rfl True.intro (fun h=>?_) (fun h=>?_)<;>(try (cases h;done))<;>(try simp only [h]))|refine Pwp.ret ?_|(refine hK _ ?_;clear hK K)|(refine hK _ _ rfl ?_;clear hK K)|(refine CallK.toD (ds:=[.agg [I64 0, I64 0, .slc 8 (itemsD w), .slc 3 (ordersD [])], .agg [I64 x.seller, I64 x.number]]) rfl (r181) rfl ?_)|refine CallG.off ?_|with_reducible refine Or.inl ?_|simp only [thenS,blockS]|with_reducible refine And.intro ?_ ?_|with_reducible exact True.intro|simp (dsimp:=false) only [↓gq,↓stepP,↓stepG,go_sem,hg,c2,w2,hnm,hll,cm,g0,Bool.true_or])
              all_goals (try (first|(intro hg;simp [hg];done)|exact of_decide_eq_true rfl|(cases h;done)))
              (refine Fin.data (.inr rfl) (by simp (dsimp:=false) only [↓gq,↓stepP,↓stepG,go_sem,resL]; rfl) (by simp only [and_self]) (by simp (dsimp:=false) only [↓gq,↓stepP,↓stepG,go_sem,resP,Nat.le_refl,List.take_length]; try rfl) ?_)
              exact subD_refl _
            | some y0 =>
              have g0 := items_at hw0
              unfold L128b boxQ boxR boxV
              repeat' (first|((first|refine goA rfl fun K hK=>?_|refine goB rfl fun K hK=>?_|refine goC rfl rfl fun K hK=>?_|refine goD rfl rfl fun K hK=>?_);simp (dsimp:=false) only [↓gq,↓stepP,↓stepG,go_sem,hg,c2,w2,hnm,hll,cm,g0,Bool.true_or])|refine Pwp.seq ?_|refine Pwp.block ?_|(refine Pwp.exit ?_;simp only [thenS,blockS,if_true,if_false,reduceIte,Nat.reduceEqDiff,Nat.add_one_ne_zero,reduceCtorEq])|(refine Pwp.skip ?_;simp only [thenS,blockS])|(refine Pwp.cond rfl True.intro (fun h=>?_) (fun h=>?_)<;>(try (cases h;done))<;>(try simp only [h]))|refine Pwp.ret ?_|(refine hK _ ?_;clear hK K)|(refine hK _ _ rfl ?_;clear hK K)|(refine CallK.toD (ds:=[.agg [I64 0, I64 0, .slc 8 (itemsD w), .slc 3 (ordersD [])], .agg [I64 x.seller, I64 x.number]]) rfl (r181) rfl ?_)|refine CallG.off ?_|with_reducible refine Or.inl ?_|simp only [thenS,blockS]|with_reducible refine And.intro ?_ ?_|with_reducible exact True.intro|simp (dsimp:=false) only [↓gq,↓stepP,↓stepG,go_sem,hg,c2,w2,hnm,hll,cm,g0,Bool.true_or])
              all_goals (try (first|(intro hg;simp [hg];done)|exact of_decide_eq_true rfl|(cases h;done)))
              (refine Fin.data (.inr rfl) (by simp (dsimp:=false) only [↓gq,↓stepP,↓stepG,go_sem,resL]; rfl) (by simp only [and_self]) (by simp (dsimp:=false) only [↓gq,↓stepP,↓stepG,go_sem,resP,Nat.le_refl,List.take_length]; try rfl) ?_)
              exact subD_refl _
          · rw [Nat.zero_add] at h1
            rw [h1] at r181
            have hgy := items_at h2
            have ck : decide (((k : Nat) : Int) < 0) = false := decide_eq_false (by omega)
            have r194 := run194 y
            unfold Item.d Item.cells lineOf Line.d Line.cells at r194
            cases hbd : badLn l m.cycle x with
            | true =>
              rw [bad hbd]
              unfold badLn eqLn lineOf at hbd
              rw [h3, h4, Bool.not_true, Bool.false_or] at hbd
              unfold notMine at hnm
              unfold L128b boxQ boxR boxV
              repeat' (first|((first|refine goA rfl fun K hK=>?_|refine goB rfl fun K hK=>?_|refine goC rfl rfl fun K hK=>?_|refine goD rfl rfl fun K hK=>?_);simp (dsimp:=false) only [↓gq,↓stepP,↓stepG,go_sem,hg,c2,w2,hnm,hll,ck,hgy,hbd,Bool.false_or,Int.toNat_natCast])|refine Pwp.seq ?_|refine Pwp.block ?_|(refine Pwp.exit ?_;simp only [thenS,blockS,if_true,if_false,reduceIte,Nat.reduceEqDiff,Nat.add_one_ne_zero,reduceCtorEq])|(refine Pwp.skip ?_;simp only [thenS,blockS])|(refine Pwp.cond rfl True.intro (fun h=>?_) (fun h=>?_)<;>(try (cases h;done))<;>(try simp only [h]))|refine Pwp.ret ?_|(refine hK _ ?_;clear hK K)|(refine hK _ _ rfl ?_;clear hK K)|(refine CallK.toD (ds:=[.agg [I64 0, I64 0, .slc 8 (itemsD w), .slc 3 (ordersD [])], .agg [I64 x.seller, I64 x.number]]) rfl (r181) rfl ?_)|(refine CallG.toD (ds:=[.agg [I64 y.seller, I64 y.number, I64 y.buyer, I64 y.currency, I64 y.amount, I64 y.round, I64 y.state, I64 y.cycle]]) rfl (r194) rfl ?_ ?_)|refine CallG.off ?_|with_reducible refine Or.inl ?_|simp only [thenS,blockS]|with_reducible refine And.intro ?_ ?_|with_reducible exact True.intro|simp (dsimp:=false) only [↓gq,↓stepP,↓stepG,go_sem,hg,c2,w2,hnm,hll,ck,hgy,hbd,Bool.false_or,Int.toNat_natCast])
              all_goals (try (first|(intro hg;simp [hg];done)|exact of_decide_eq_true rfl|(cases h;done)))
              all_goals (try (intro hg; simp only [hg, Bool.not_false, Bool.not_true, Bool.and_self, Bool.true_and, Bool.and_true, true_and, and_self, imp_self, implies_true]; done))
              (refine Fin.data (.inr rfl) (by simp (dsimp:=false) only [↓gq,↓stepP,↓stepG,go_sem,resL]; rfl) (by simp only [and_self]) (by simp (dsimp:=false) only [↓gq,↓stepP,↓stepG,go_sem,resP,Nat.le_refl,List.take_length]; try rfl) ?_)
              exact subD_refl _
            | false =>
              have hok' := grow (fun _ => hbd)
              unfold badLn eqLn lineOf at hbd
              rw [h3, h4, Bool.not_true, Bool.false_or] at hbd
              unfold notMine at hnm
              unfold L128b boxQ boxR boxV
              repeat' (first|((first|refine goA rfl fun K hK=>?_|refine goB rfl fun K hK=>?_|refine goC rfl rfl fun K hK=>?_|refine goD rfl rfl fun K hK=>?_);simp (dsimp:=false) only [↓gq,↓stepP,↓stepG,go_sem,hg,c2,w2,hnm,hll,ck,hgy,hbd,Bool.false_or,Int.toNat_natCast])|refine Pwp.seq ?_|refine Pwp.block ?_|(refine Pwp.exit ?_;simp only [thenS,blockS,if_true,if_false,reduceIte,Nat.reduceEqDiff,Nat.add_one_ne_zero,reduceCtorEq])|(refine Pwp.skip ?_;simp only [thenS,blockS])|(refine Pwp.cond rfl True.intro (fun h=>?_) (fun h=>?_)<;>(try (cases h;done))<;>(try simp only [h]))|refine Pwp.ret ?_|(refine hK _ ?_;clear hK K)|(refine hK _ _ rfl ?_;clear hK K)|(refine CallK.toD (ds:=[.agg [I64 0, I64 0, .slc 8 (itemsD w), .slc 3 (ordersD [])], .agg [I64 x.seller, I64 x.number]]) rfl (r181) rfl ?_)|(refine CallG.toD (ds:=[.agg [I64 y.seller, I64 y.number, I64 y.buyer, I64 y.currency, I64 y.amount, I64 y.round, I64 y.state, I64 y.cycle]]) rfl (r194) rfl ?_ ?_)|refine CallG.off ?_|with_reducible refine Or.inl ?_|simp only [thenS,blockS]|with_reducible refine And.intro ?_ ?_|with_reducible exact True.intro|simp (dsimp:=false) only [↓gq,↓stepP,↓stepG,go_sem,hg,c2,w2,hnm,hll,ck,hgy,hbd,Bool.false_or,Int.toNat_natCast])
              all_goals (try (first|(intro hg;simp [hg];done)|exact of_decide_eq_true rfl|(cases h;done)))
              all_goals (try (intro hg; simp only [hg, Bool.not_false, Bool.not_true, Bool.and_self, Bool.true_and, Bool.and_true, true_and, and_self, imp_self, implies_true]; done))
              exact ⟨_, Sub.view V0 (by simp [L128b]) rfl (by simp [L128b,boxQ,boxR,boxV]) (by simp [L128b,boxQ,boxR,boxV]), hok', rfl⟩
      · rintro s ⟨hok2, rfl⟩
        have c2 := dge (Nat.le_refl m.ls.length)
        rw [List.take_length] at hok2
        have hall : ((mineL q.me m.ls).all fun x => !badLn l m.cycle x) = true := mine_allB.2 fun x hx hnm => by rw [hok2 x hx hnm]; rfl
        rw [hall]
        unfold L128b boxQ boxR boxV
        repeat' (first|((first|refine goA rfl fun K hK=>?_|refine goB rfl fun K hK=>?_|refine goC rfl rfl fun K hK=>?_|refine goD rfl rfl fun K hK=>?_);simp (dsimp:=false) only [↓gq,↓stepP,↓stepG,go_sem,c2,hll])|refine Pwp.seq ?_|refine Pwp.block ?_|(refine Pwp.exit ?_;simp only [thenS,blockS,if_true,if_false,reduceIte,Nat.reduceEqDiff,Nat.add_one_ne_zero,reduceCtorEq])|(refine Pwp.skip ?_;simp only [thenS,blockS])|(refine Pwp.cond rfl True.intro (fun h=>?_) (fun h=>?_)<;>(try (cases h;done))<;>(try simp only [h]))|refine Pwp.ret ?_|(refine hK _ ?_;clear hK K)|(refine hK _ _ rfl ?_;clear hK K)|refine CallG.off ?_|with_reducible refine Or.inl ?_|simp only [thenS,blockS]|with_reducible refine And.intro ?_ ?_|with_reducible exact True.intro|simp (dsimp:=false) only [↓gq,↓stepP,↓stepG,go_sem,c2,hll])
        all_goals (try (first|(intro hg;simp [hg];done)|exact of_decide_eq_true rfl|(cases h;done)))
        (refine Fin.data (.inr rfl) (by simp (dsimp:=false) only [↓gq,↓stepP,↓stepG,go_sem,resL]; rfl) (by simp only [and_self]) (by simp (dsimp:=false) only [↓gq,↓stepP,↓stepG,go_sem,resP,Nat.le_refl,List.take_length]; try rfl) ?_)
        exact subD_refl _
end Go.Proofs.Ytdodgbhodkcckaa.Pv
end
section
set_option linter.unusedVariables false
set_option linter.unusedSimpArgs false
set_option autoImplicit false
set_option maxRecDepth 100000
namespace Go.Proofs.Ytdodgbhodkcckaa.Pv
open Go Go.RowKit
theorem CallG.toDS {P : Program} {fid : Nat} {g : Bool} {st : St} {qs : List PVal} {G : Prop} {ds es : List D} {x : D} {K : Eff → Prop} (hd : toDL st.heap qs = some ds) (hs : subL ds es) (hr : Runs P fid (es.map .d) [] (.d x) []) (hf : x.flat = true) (hG : g = true → G) (hK : K ⟨.gd g (.d x), [], []⟩) : CallG P fid g st qs G K :=
  ⟨es.map .d, x, fun e => ⟨(args_sub hd hs).1, fun p hp => by obtain ⟨y, _, rfl⟩ := List.mem_map.1 hp; exact ⟨y, rfl⟩, hr, hG e⟩, .inr hf, hK⟩
theorem linesN_sub (ls : List Line) : subD (linesN ls) (.slc 4 (linesD ls)) := by
  cases ls with
  | nil => simp [linesN, subD, subV, linesD]
  | cons y ys => exact subD_refl _
set_option maxHeartbeats 8000000 in
theorem run184f (x : Item) (h : held x = true) : Runs Try.prog 184 [.d x.d, pint .i64 6, pint .i64 0] [] (.d (.tup [Item.d { x with cycle := 0 }, I64 0])) [] := by
  unfold held at h
  have c : (x.state != 3 || x.cycle == 0) = false := by
    rw [Bool.and_eq_true, beq_iff_eq, bne_iff_ne] at h
    rw [Bool.or_eq_false_iff]; exact ⟨by simp [h.1], by simpa using h.2⟩
  unfold Item.d Item.cells
  refine Runs.of (kit Try.prog) Try.func184 rfl rfl (by rw [Try.ntmps184]; exact of_decide_eq_true rfl) ?_; rw [Try.ntmps184, Try.results184]
  repeat' (first|((first|refine goA rfl fun K hK=>?_|refine goB rfl fun K hK=>?_|refine goC rfl rfl fun K hK=>?_|refine goD rfl rfl fun K hK=>?_);simp (dsimp:=false) only [↓gq,↓stepP,↓stepG,go_sem,c])|refine Pwp.seq ?_|refine Pwp.block ?_|(refine Pwp.exit ?_;simp only [thenS,blockS,if_true,if_false,reduceIte,Nat.reduceEqDiff,Nat.add_one_ne_zero,reduceCtorEq])|(refine Pwp.skip ?_;simp only [thenS,blockS])|(refine Pwp.cond rfl True.intro (fun h=>?_) (fun h=>?_)<;>(try (cases h;done))<;>(try simp only [h]))|refine Pwp.ret ?_|(refine hK _ ?_;clear hK K)|(refine hK _ _ rfl ?_;clear hK K)|refine CallG.off ?_|with_reducible refine Or.inl ?_|simp only [thenS,blockS]|with_reducible refine And.intro ?_ ?_|with_reducible exact True.intro|simp (dsimp:=false) only [↓gq,↓stepP,↓stepG,go_sem,c])
  all_goals (try (first|(intro hg;simp [hg];done)|exact of_decide_eq_true rfl|(cases h;done)))
  (refine Fin.data (.inr rfl) (by simp (dsimp:=false) only [↓gq,↓stepP,↓stepG,go_sem,resL]; rfl) (by simp only [and_self]) (by simp (dsimp:=false) only [↓gq,↓stepP,↓stepG,go_sem,resP,Nat.le_refl,List.take_length]; try rfl) ?_)
  exact subD_refl _
set_option maxHeartbeats 8000000 in
theorem run184s (x : Item) (h : held x = true) : Runs Try.prog 184 [.d x.d, pint .i64 7, pint .i64 0] [] (.d (.tup [Item.d { x with state := 5 }, I64 0])) [] := by
  unfold held at h
  have c : (x.state != 3 || x.cycle == 0) = false := by
    rw [Bool.and_eq_true, beq_iff_eq, bne_iff_ne] at h
    rw [Bool.or_eq_false_iff]; exact ⟨by simp [h.1], by simpa using h.2⟩
  unfold Item.d Item.cells
  refine Runs.of (kit Try.prog) Try.func184 rfl rfl (by rw [Try.ntmps184]; exact of_decide_eq_true rfl) ?_; rw [Try.ntmps184, Try.results184]
  repeat' (first|((first|refine goA rfl fun K hK=>?_|refine goB rfl fun K hK=>?_|refine goC rfl rfl fun K hK=>?_|refine goD rfl rfl fun K hK=>?_);simp (dsimp:=false) only [↓gq,↓stepP,↓stepG,go_sem,c])|refine Pwp.seq ?_|refine Pwp.block ?_|(refine Pwp.exit ?_;simp only [thenS,blockS,if_true,if_false,reduceIte,Nat.reduceEqDiff,Nat.add_one_ne_zero,reduceCtorEq])|(refine Pwp.skip ?_;simp only [thenS,blockS])|(refine Pwp.cond rfl True.intro (fun h=>?_) (fun h=>?_)<;>(try (cases h;done))<;>(try simp only [h]))|refine Pwp.ret ?_|(refine hK _ ?_;clear hK K)|(refine hK _ _ rfl ?_;clear hK K)|refine CallG.off ?_|with_reducible refine Or.inl ?_|simp only [thenS,blockS]|with_reducible refine And.intro ?_ ?_|with_reducible exact True.intro|simp (dsimp:=false) only [↓gq,↓stepP,↓stepG,go_sem,c])
  all_goals (try (first|(intro hg;simp [hg];done)|exact of_decide_eq_true rfl|(cases h;done)))
  (refine Fin.data (.inr rfl) (by simp (dsimp:=false) only [↓gq,↓stepP,↓stepG,go_sem,resL]; rfl) (by simp only [and_self]) (by simp (dsimp:=false) only [↓gq,↓stepP,↓stepG,go_sem,resP,Nat.le_refl,List.take_length]; try rfl) ?_)
  exact subD_refl _
def skipE (c : Int) (x : Item) : Bool := x.state != 3 || x.cycle != c
def gEnd (yes : Bool) (ls : List Line) (c : Int) (x : Item) : Item := if skipE c x = true then x else endI yes ls x
def wEnd (yes : Bool) (ls : List Line) (c : Int) (w : List Item) (i : Nat) : List Item := (w.take i).map (gEnd yes ls c) ++ w.drop i
theorem wEnd_len (yes : Bool) (ls : List Line) (c : Int) (w : List Item) {i : Nat} (h : i ≤ w.length) : (wEnd yes ls c w i).length = w.length := by unfold wEnd; simp; omega
theorem wEnd_get {yes : Bool} {ls : List Line} {c : Int} {w : List Item} {i : Nat} {x : Item} (h : w[i]? = some x) : (wEnd yes ls c w i)[i]? = some x := by
  have hi := (List.getElem?_eq_some_iff.1 h).1
  unfold wEnd
  rw [List.getElem?_append_right (by simp; omega), List.getElem?_drop]
  rw [← h]; congr 1; simp; omega
theorem wEnd_set {yes : Bool} {ls : List Line} {c : Int} {w : List Item} {i : Nat} {x : Item} (h : w[i]? = some x) : (wEnd yes ls c w i).set i (gEnd yes ls c x) = wEnd yes ls c w (i + 1) := by
  have hi := (List.getElem?_eq_some_iff.1 h).1
  unfold wEnd
  have hl : ((w.take i).map (gEnd yes ls c)).length = i := by simp; omega
  rw [List.set_append_right _ _ (by omega), hl, Nat.sub_self, List.drop_eq_getElem_cons hi, List.set_cons_zero, List.take_add_one, h]
  simp
def Apart (w : List Item) : Prop := ∀ (i j : Nat) (x y : Item), w[i]? = some x → w[j]? = some y → x.seller = y.seller → x.number = y.number → i = j
theorem apart_of {me : Int} {l w : List Item} (h : RelI me l w) : Apart w := by
  have hn : w.Pairwise (fun a b => kI a ≠ kI b) := (h.pm.pairwise_iff (fun h => Ne.symm h)).2 (h.gd.rise.imp fun h => by omega)
  rw [List.pairwise_iff_getElem] at hn
  intro i j x y hx hy e1 e2
  obtain ⟨hi, rfl⟩ := List.getElem?_eq_some_iff.1 hx
  obtain ⟨hj, rfl⟩ := List.getElem?_eq_some_iff.1 hy
  rcases Nat.lt_trichotomy i j with h1 | h1 | h1
  · exact absurd (by unfold kI; rw [e1, e2]) (hn i j hi hj h1)
  · exact h1
  · exact absurd (by unfold kI; rw [e1, e2]) (hn j i hj hi h1)
theorem gEnd_key (yes : Bool) (ls : List Line) (c : Int) (x : Item) : (gEnd yes ls c x).seller = x.seller ∧ (gEnd yes ls c x).number = x.number := by
  unfold gEnd; split
  · exact ⟨rfl, rfl⟩
  · exact ⟨(endI_key yes ls x).1, (endI_key yes ls x).2.1⟩
theorem wEnd_src {yes : Bool} {ls : List Line} {c : Int} {w : List Item} {i j : Nat} {y : Item} (h : (wEnd yes ls c w i)[j]? = some y) : ∃ z, w[j]? = some z ∧ y.seller = z.seller ∧ y.number = z.number := by
  unfold wEnd at h
  rcases Nat.lt_or_ge j (w.take i).length with hj | hj
  · rw [List.getElem?_append_left (by simpa using hj), List.getElem?_map, Option.map_eq_some_iff] at h
    obtain ⟨z, hz, rfl⟩ := h
    rw [List.getElem?_take] at hz
    split at hz
    · exact ⟨z, hz, gEnd_key yes ls c z⟩
    · cases hz
  · rw [List.getElem?_append_right (by simpa using hj), List.getElem?_drop] at h
    simp only [List.length_map] at h
    rcases Nat.lt_or_ge i w.length with hi | hi
    · rw [List.length_take, Nat.min_eq_left (by omega)] at h hj
      rw [show i + (j - i) = j by omega] at h
      exact ⟨y, h, rfl, rfl⟩
    · rw [List.getElem?_eq_none (by omega)] at h; cases h
theorem wEnd_keep {yes : Bool} {ls : List Line} {c : Int} {w : List Item} (ha : Apart w) {i : Nat} {x z : Item} (h : w[i]? = some x) (hz : z.seller = x.seller ∧ z.number = x.number) : keepL2 (wEnd yes ls c w i) z = (wEnd yes ls c w i).set i z := by
  unfold keepL2
  rcases fnd_at z.seller z.number (wEnd yes ls c w i) 0 with ⟨_, h2⟩ | ⟨k, y, h1, h2, h3⟩
  · have := h2 x (List.mem_of_getElem? (wEnd_get h))
    unfold isNm at this
    rw [hz.1, hz.2] at this; simp at this
  · unfold isNm at h3
    rw [Bool.and_eq_true, beq_iff_eq, beq_iff_eq] at h3
    obtain ⟨u, hu, e1, e2⟩ := wEnd_src h2
    have hk : k = i := ha k i u x hu h (by rw [← e1, h3.1, hz.1]) (by rw [← e2, h3.2, hz.2])
    subst hk
    rw [h1, Nat.zero_add, if_neg (by omega), Int.toNat_natCast]
def L130 (q : VP) (w : List Item) (m : VMsg) (z : Part) (i : Nat) : St :=
  ⟨[(10, pint .i64 i), (9, .ref 13 0), (8, .ref 12 0), (7, .ref 11 0), (6, .ref 10 0), (5, .ref 9 0), (4, .ref 8 0)],
   [(8, boxQ q), (9, boxR (wEnd m.yes z.lines m.cycle w i)), (10, boxV m), (11, .box [.d (I64 z.cycle), .d (I64 z.currency), .d (I64 z.state), .d (linesN z.lines)]), (12, .box [.d (I64 0), .d (I64 0), .d nilD]), (13, .box [.d (I64 0), .d (I64 0), .d nilD, .d nilD])], 36⟩
set_option maxHeartbeats 64000000 in
theorem run130 (q : VP) (bk : Int) (l w : List Item) (m : VMsg) (z : Part) (hR : RelI bk l w) (hw : w.length ≤ 10000) (hq : q.list.length ≤ 10000) (hz : z.lines.length ≤ 10000) (hc0 : m.cycle ≠ 0) :
    Runs Try.prog 130 [.d q.dN, .d (rdD w).d, .d m.msg.d, .d (.agg z.cellsN)] [] (.d (.tup [VP.dN { q with list := withL q.list { z with state := if m.yes = true then 4 else 5 } }, (rdD (w.map (gEnd m.yes z.lines m.cycle))).d])) [] := by
  have hAp := apart_of hR
  have hone : D.one (linesN z.lines) = true := by cases z.lines <;> rfl
  have r129y := run129 q { z with state := 4 } (by omega)
  have r129n := run129 q { z with state := 5 } (by omega)
  unfold VP.dN rdD RDesk.d RDesk.cells VMsg.msg Msg.d Msg.cells Part.cellsN at *
  refine Runs.of (kit Try.prog) Try.func130 rfl rfl (by rw [Try.ntmps130]; exact of_decide_eq_true rfl) ?_; rw [Try.ntmps130, Try.results130]
  repeat' (first|((first|refine goA rfl fun K hK=>?_|refine goB rfl fun K hK=>?_|refine goC rfl rfl fun K hK=>?_|refine goD rfl rfl fun K hK=>?_);simp (dsimp:=false) only [↓gq,↓stepP,↓stepG,go_sem])|refine Pwp.seq ?_|refine Pwp.block ?_|(refine Pwp.exit ?_;simp only [thenS,blockS,if_true,if_false,reduceIte,Nat.reduceEqDiff,Nat.add_one_ne_zero,reduceCtorEq])|(refine Pwp.skip ?_;simp only [thenS,blockS])|(refine Pwp.cond rfl True.intro (fun h=>?_) (fun h=>?_)<;>(try (cases h;done))<;>(try simp only [h]))|refine Pwp.ret ?_|(refine hK _ ?_;clear hK K)|(refine hK _ _ rfl ?_;clear hK K)|refine CallG.off ?_|with_reducible refine Or.inl ?_|simp only [thenS,blockS]|with_reducible refine And.intro ?_ ?_|with_reducible exact True.intro|simp (dsimp:=false) only [↓gq,↓stepP,↓stepG,go_sem])
  all_goals (try (first|(intro hg;simp [hg];done)|exact of_decide_eq_true rfl|(cases h;done)))
  refine Pwp.range w.length (S := L130 q w m z) (Sub.view V0 (by simp [L130]) rfl (by simp [L130,boxQ,boxR,boxV,wEnd]) (by simp [L130,boxQ,boxR,boxV,wEnd])) (fun i hi => ?_) ?_
  · obtain ⟨x, hx, hm⟩ := at_lt hi
    have hgx := items_at (wEnd_get (yes := m.yes) (ls := z.lines) (c := m.cycle) hx)
    have hwl := wEnd_len m.yes z.lines m.cycle w (i := i) (by omega)
    have hil := items_len (wEnd m.yes z.lines m.cycle w i)
    have c1 := dlt hi
    have w1 := wrap_succ (i := i) (by omega)
    have hst := wEnd_set (yes := m.yes) (ls := z.lines) (c := m.cycle) hx
    cases hs : skipE m.cycle x with
    | true =>
      have hgE : gEnd m.yes z.lines m.cycle x = x := by unfold gEnd; rw [if_pos hs]
      have hsame : (wEnd m.yes z.lines m.cycle w i).set i x = wEnd m.yes z.lines m.cycle w i := by
        obtain ⟨h1, h2⟩ := List.getElem?_eq_some_iff.1 (wEnd_get (yes := m.yes) (ls := z.lines) (c := m.cycle) hx)
        conv => lhs; arg 3; rw [← h2]
        exact List.set_getElem_self h1
      rw [hgE, hsame] at hst
      unfold skipE at hs
      unfold L130 boxQ boxR boxV
      repeat' (first|((first|refine goA rfl fun K hK=>?_|refine goB rfl fun K hK=>?_|refine goC rfl rfl fun K hK=>?_|refine goD rfl rfl fun K hK=>?_);simp (dsimp:=false) only [↓gq,↓stepP,↓stepG,go_sem,hgx,c1,w1,hil,hwl,hs])|refine Pwp.seq ?_|refine Pwp.block ?_|(refine Pwp.exit ?_;simp only [thenS,blockS,if_true,if_false,reduceIte,Nat.reduceEqDiff,Nat.add_one_ne_zero,reduceCtorEq])|(refine Pwp.skip ?_;simp only [thenS,blockS])|(refine Pwp.cond rfl True.intro (fun h=>?_) (fun h=>?_)<;>(try (cases h;done))<;>(try simp only [h]))|refine Pwp.ret ?_|(refine hK _ ?_;clear hK K)|(refine hK _ _ rfl ?_;clear hK K)|refine CallG.off ?_|with_reducible refine Or.inl ?_|simp only [thenS,blockS]|with_reducible refine And.intro ?_ ?_|with_reducible exact True.intro|simp (dsimp:=false) only [↓gq,↓stepP,↓stepG,go_sem,hgx,c1,w1,hil,hwl,hs])
      all_goals (try (first|(intro hg;simp [hg];done)|exact of_decide_eq_true rfl|(cases h;done)))
      exact Sub.view V0 (by simp [L130]) rfl (by simp [L130,boxQ,boxR,boxV,hst]) (by simp [L130,boxQ,boxR,boxV,hst])
    | false =>
      have hgE : gEnd m.yes z.lines m.cycle x = endI m.yes z.lines x := by unfold gEnd; rw [if_neg (by rw [hs]; simp)]
      have hkp := wEnd_keep (yes := m.yes) (ls := z.lines) (c := m.cycle) hAp hx (z := endI m.yes z.lines x) ⟨(endI_key m.yes z.lines x).1, (endI_key m.yes z.lines x).2.1⟩
      rw [hgE, ← hkp] at hst
      have hh : held x = true := by
        unfold skipE at hs
        simp only [Bool.or_eq_false_iff, bne_eq_false_iff_eq] at hs
        unfold held; rw [hs.1, hs.2]; simpa using hc0
      have r194 := run194 x
      have r195 := run195 z.lines (lineOf x) (by omega)
      have r184f := run184f x hh
      have r184s := run184s x hh
      have r121 := run121 (rdD (wEnd m.yes z.lines m.cycle w i)) (endI m.yes z.lines x) (by simp only [rdD]; omega)
      unfold RDesk.keep at r121
      simp only [rdD, hst] at r121
      unfold skipE at hs
      cases hy : (m.yes && decide (lineOf x ∈ z.lines)) with
      | true =>
        have he : endI m.yes z.lines x = { x with state := 5 } := by unfold endI; rw [if_pos hy]
        rw [he] at r121
        generalize decide (lineOf x ∈ z.lines) = b at *
        unfold Item.d Item.cells lineOf Line.d Line.cells at r194
        unfold lineOf Line.d Line.cells at r195
        unfold Item.d Item.cells at r184s
        unfold RDesk.d RDesk.cells Item.d Item.cells at r121
        unfold L130 boxQ boxR boxV
        repeat' (first|((first|refine goA rfl fun K hK=>?_|refine goB rfl fun K hK=>?_|refine goC rfl rfl fun K hK=>?_|refine goD rfl rfl fun K hK=>?_);simp (dsimp:=false) only [↓gq,↓stepP,↓stepG,go_sem,hgx,c1,w1,hil,hwl,hs,hy])|refine Pwp.seq ?_|refine Pwp.block ?_|(refine Pwp.exit ?_;simp only [thenS,blockS,if_true,if_false,reduceIte,Nat.reduceEqDiff,Nat.add_one_ne_zero,reduceCtorEq])|(refine Pwp.skip ?_;simp only [thenS,blockS])|(refine Pwp.cond rfl True.intro (fun h=>?_) (fun h=>?_)<;>(try (cases h;done))<;>(try simp only [h]))|refine Pwp.ret ?_|(refine hK _ ?_;clear hK K)|(refine hK _ _ rfl ?_;clear hK K)|(refine CallG.toDS (ds:=[linesN z.lines, .agg [I64 x.seller, I64 x.number, I64 x.buyer, I64 x.amount]]) (es:=[.slc 4 (linesD z.lines), .agg [I64 x.seller, I64 x.number, I64 x.buyer, I64 x.amount]]) rfl (by simp [subL, linesN_sub, subD_refl]) r195 rfl ?_ ?_)|(refine CallK.toD (ds:=[.agg [I64 x.seller, I64 x.number, I64 x.buyer, I64 x.currency, I64 x.amount, I64 x.round, I64 x.state, I64 x.cycle], I64 7, I64 0]) rfl (r184s) rfl ?_)|(refine CallK.give (ds:=[.agg [I64 0, I64 0, .slc 8 (itemsD (wEnd m.yes z.lines m.cycle w i)), .slc 3 (ordersD [])], .agg [I64 x.seller, I64 x.number, I64 x.buyer, I64 x.currency, I64 x.amount, I64 x.round, I64 5, I64 x.cycle]]) rfl (r121) (by simp) ?_)|(refine CallG.toD (ds:=[.agg [I64 x.seller, I64 x.number, I64 x.buyer, I64 x.currency, I64 x.amount, I64 x.round, I64 x.state, I64 x.cycle]]) rfl (r194) rfl ?_ ?_)|refine CallG.off ?_|with_reducible refine Or.inl ?_|simp only [thenS,blockS]|with_reducible refine And.intro ?_ ?_|with_reducible exact True.intro|simp (dsimp:=false) only [↓gq,↓stepP,↓stepG,go_sem,hgx,c1,w1,hil,hwl,hs,hy])
        all_goals (try (first|(intro hg;simp [hg];done)|exact of_decide_eq_true rfl|(cases h;done)))
        exact Sub.view V0 (by simp [L130]) rfl (by simp [L130,boxQ,boxR,boxV]) (by simp [L130,boxQ,boxR,boxV])
      | false =>
        have he : endI m.yes z.lines x = { x with cycle := 0 } := by unfold endI; rw [if_neg (by rw [hy]; simp)]
        rw [he] at r121
        generalize decide (lineOf x ∈ z.lines) = b at *
        unfold Item.d Item.cells lineOf Line.d Line.cells at r194
        unfold lineOf Line.d Line.cells at r195
        unfold Item.d Item.cells at r184f
        unfold RDesk.d RDesk.cells Item.d Item.cells at r121
        unfold L130 boxQ boxR boxV
        repeat' (first|((first|refine goA rfl fun K hK=>?_|refine goB rfl fun K hK=>?_|refine goC rfl rfl fun K hK=>?_|refine goD rfl rfl fun K hK=>?_);simp (dsimp:=false) only [↓gq,↓stepP,↓stepG,go_sem,hgx,c1,w1,hil,hwl,hs,hy])|refine Pwp.seq ?_|refine Pwp.block ?_|(refine Pwp.exit ?_;simp only [thenS,blockS,if_true,if_false,reduceIte,Nat.reduceEqDiff,Nat.add_one_ne_zero,reduceCtorEq])|(refine Pwp.skip ?_;simp only [thenS,blockS])|(refine Pwp.cond rfl True.intro (fun h=>?_) (fun h=>?_)<;>(try (cases h;done))<;>(try simp only [h]))|refine Pwp.ret ?_|(refine hK _ ?_;clear hK K)|(refine hK _ _ rfl ?_;clear hK K)|(refine CallG.toDS (ds:=[linesN z.lines, .agg [I64 x.seller, I64 x.number, I64 x.buyer, I64 x.amount]]) (es:=[.slc 4 (linesD z.lines), .agg [I64 x.seller, I64 x.number, I64 x.buyer, I64 x.amount]]) rfl (by simp [subL, linesN_sub, subD_refl]) r195 rfl ?_ ?_)|(refine CallK.toD (ds:=[.agg [I64 x.seller, I64 x.number, I64 x.buyer, I64 x.currency, I64 x.amount, I64 x.round, I64 x.state, I64 x.cycle], I64 6, I64 0]) rfl (r184f) rfl ?_)|(refine CallK.give (ds:=[.agg [I64 0, I64 0, .slc 8 (itemsD (wEnd m.yes z.lines m.cycle w i)), .slc 3 (ordersD [])], .agg [I64 x.seller, I64 x.number, I64 x.buyer, I64 x.currency, I64 x.amount, I64 x.round, I64 x.state, I64 0]]) rfl (r121) (by simp) ?_)|(refine CallG.toD (ds:=[.agg [I64 x.seller, I64 x.number, I64 x.buyer, I64 x.currency, I64 x.amount, I64 x.round, I64 x.state, I64 x.cycle]]) rfl (r194) rfl ?_ ?_)|refine CallG.off ?_|with_reducible refine Or.inl ?_|simp only [thenS,blockS]|with_reducible refine And.intro ?_ ?_|with_reducible exact True.intro|simp (dsimp:=false) only [↓gq,↓stepP,↓stepG,go_sem,hgx,c1,w1,hil,hwl,hs,hy])
        all_goals (try (first|(intro hg;simp [hg];done)|exact of_decide_eq_true rfl|(cases h;done)))
        exact Sub.view V0 (by simp [L130]) rfl (by simp [L130,boxQ,boxR,boxV]) (by simp [L130,boxQ,boxR,boxV])
  · have c1 := dge (Nat.le_refl w.length)
    have hwl := wEnd_len m.yes z.lines m.cycle w (i := w.length) (Nat.le_refl _)
    have hil := items_len (wEnd m.yes z.lines m.cycle w w.length)
    have hwe : wEnd m.yes z.lines m.cycle w w.length = w.map (gEnd m.yes z.lines m.cycle) := by unfold wEnd; simp
    rw [hwe] at hil hwl
    unfold L130 boxQ boxR boxV
    rw [hwe]
    cases hy : m.yes with
    | true =>
      rw [hy] at hil hwl
      repeat' (first|((first|refine goA rfl fun K hK=>?_|refine goB rfl fun K hK=>?_|refine goC rfl rfl fun K hK=>?_|refine goD rfl rfl fun K hK=>?_);simp (dsimp:=false) only [↓gq,↓stepP,↓stepG,go_sem,c1,hil,hwl,hy])|refine Pwp.seq ?_|refine Pwp.block ?_|(refine Pwp.exit ?_;simp only [thenS,blockS,if_true,if_false,reduceIte,Nat.reduceEqDiff,Nat.add_one_ne_zero,reduceCtorEq])|(refine Pwp.skip ?_;simp only [thenS,blockS])|(refine Pwp.cond rfl True.intro (fun h=>?_) (fun h=>?_)<;>(try (cases h;done))<;>(try simp only [h]))|refine Pwp.ret ?_|(refine hK _ ?_;clear hK K)|(refine hK _ _ rfl ?_;clear hK K)|(refine CallK.give (ds:=[.agg [I64 q.me, I64 q.n, .slc 4 (partsN q.list)], .agg [I64 z.cycle, I64 z.currency, I64 4, linesN z.lines]]) rfl (r129y) (by simp) ?_)|refine CallG.off ?_|with_reducible refine Or.inl ?_|simp only [thenS,blockS]|with_reducible refine And.intro ?_ ?_|with_reducible exact True.intro|simp (dsimp:=false) only [↓gq,↓stepP,↓stepG,go_sem,c1,hil,hwl,hy])
      all_goals (try (first|(intro hg;simp [hg];done)|exact of_decide_eq_true rfl|(cases h;done)))
      (refine Fin.data (.inr rfl) (by simp (dsimp:=false) only [↓gq,↓stepP,↓stepG,go_sem,resL]; rfl) (by simp only [and_self]) (by simp (dsimp:=false) only [↓gq,↓stepP,↓stepG,go_sem,resP,Nat.le_refl,List.take_length]; try rfl) ?_)
      exact subD_refl _
    | false =>
      rw [hy] at hil hwl
      repeat' (first|((first|refine goA rfl fun K hK=>?_|refine goB rfl fun K hK=>?_|refine goC rfl rfl fun K hK=>?_|refine goD rfl rfl fun K hK=>?_);simp (dsimp:=false) only [↓gq,↓stepP,↓stepG,go_sem,c1,hil,hwl,hy])|refine Pwp.seq ?_|refine Pwp.block ?_|(refine Pwp.exit ?_;simp only [thenS,blockS,if_true,if_false,reduceIte,Nat.reduceEqDiff,Nat.add_one_ne_zero,reduceCtorEq])|(refine Pwp.skip ?_;simp only [thenS,blockS])|(refine Pwp.cond rfl True.intro (fun h=>?_) (fun h=>?_)<;>(try (cases h;done))<;>(try simp only [h]))|refine Pwp.ret ?_|(refine hK _ ?_;clear hK K)|(refine hK _ _ rfl ?_;clear hK K)|(refine CallK.give (ds:=[.agg [I64 q.me, I64 q.n, .slc 4 (partsN q.list)], .agg [I64 z.cycle, I64 z.currency, I64 5, linesN z.lines]]) rfl (r129n) (by simp) ?_)|refine CallG.off ?_|with_reducible refine Or.inl ?_|simp only [thenS,blockS]|with_reducible refine And.intro ?_ ?_|with_reducible exact True.intro|simp (dsimp:=false) only [↓gq,↓stepP,↓stepG,go_sem,c1,hil,hwl,hy])
      all_goals (try (first|(intro hg;simp [hg];done)|exact of_decide_eq_true rfl|(cases h;done)))
      (refine Fin.data (.inr rfl) (by simp (dsimp:=false) only [↓gq,↓stepP,↓stepG,go_sem,resL]; rfl) (by simp only [and_self]) (by simp (dsimp:=false) only [↓gq,↓stepP,↓stepG,go_sem,resP,Nat.le_refl,List.take_length]; try rfl) ?_)
      exact subD_refl _
end Go.Proofs.Ytdodgbhodkcckaa.Pv
end
section
set_option linter.unusedVariables false
set_option linter.unusedSimpArgs false
set_option autoImplicit false
set_option maxRecDepth 100000
namespace Go.Proofs.Ytdodgbhodkcckaa.Pv
open Go Go.RowKit
def L72x (m : VMsg) (i : Nat) : St := ⟨[(5, pint .i64 i), (3, .ref 9 0), (2, .ref 8 0)], [(8, boxV m), (9, boxV m)], 312⟩
def L72y (m : VMsg) (i : Nat) : St := ⟨[(6, pint .i64 i), (3, .ref 9 0), (2, .ref 8 0)], [(8, boxV m), (9, boxV m)], 392⟩
set_option maxHeartbeats 32000000 in
theorem run72e (m : VMsg) (hl : m.ls.length ≤ 100000) (hn : m.ns.length ≤ 100000) : Runs Try.prog 72 [.d m.msg.d, .d m.msg.d] [] (pbool true) [] := by
  have hll := lines_len m.ls
  have hnl : (m.ns.map I64).length = m.ns.length := by simp
  unfold VMsg.msg Msg.d Msg.cells
  refine Runs.of (kit Try.prog) Try.func72 rfl rfl (by rw [Try.ntmps72]; exact of_decide_eq_true rfl) ?_; rw [Try.ntmps72, Try.results72]
  repeat' (first|((first|refine goA rfl fun K hK=>?_|refine goB rfl fun K hK=>?_|refine goC rfl rfl fun K hK=>?_|refine goD rfl rfl fun K hK=>?_);simp (dsimp:=false) only [↓gq,↓stepP,↓stepG,go_sem,bne_self_eq_false,beq_self_eq_true,Bool.and_self,Bool.not_true,Bool.or_self])|refine Pwp.seq ?_|refine Pwp.block ?_|(refine Pwp.exit ?_;simp only [thenS,blockS,if_true,if_false,reduceIte,Nat.reduceEqDiff,Nat.add_one_ne_zero,reduceCtorEq])|(refine Pwp.skip ?_;simp only [thenS,blockS])|(refine Pwp.cond rfl True.intro (fun h=>?_) (fun h=>?_)<;>(try (cases h;done))<;>(try simp only [h]))|refine Pwp.ret ?_|(refine hK _ ?_;clear hK K)|(refine hK _ _ rfl ?_;clear hK K)|refine CallG.off ?_|with_reducible refine Or.inl ?_|simp only [thenS,blockS]|with_reducible refine And.intro ?_ ?_|with_reducible exact True.intro|simp (dsimp:=false) only [↓gq,↓stepP,↓stepG,go_sem,bne_self_eq_false,beq_self_eq_true,Bool.and_self,Bool.not_true,Bool.or_self])
  all_goals (try (first|(intro hg;simp [hg];done)|exact of_decide_eq_true rfl|(cases h;done)))
  refine Pwp.range m.ls.length (S := L72x m) (Sub.view V0 (by simp [L72x]) rfl (by simp [L72x,boxV]) (by simp [L72x,boxV])) (fun i hi => ?_) ?_
  · obtain ⟨x, hx, hm⟩ := at_lt hi
    have hg := lines_get hx
    have c1 := dlt hi
    have w1 := wrap_succ (i := i) (by omega)
    unfold L72x boxV
    repeat' (first|((first|refine goA rfl fun K hK=>?_|refine goB rfl fun K hK=>?_|refine goC rfl rfl fun K hK=>?_|refine goD rfl rfl fun K hK=>?_);simp (dsimp:=false) only [↓gq,↓stepP,↓stepG,go_sem,hg,c1,w1,hll,beq_self_eq_true,Bool.and_self,Bool.not_true])|refine Pwp.seq ?_|refine Pwp.block ?_|(refine Pwp.exit ?_;simp only [thenS,blockS,if_true,if_false,reduceIte,Nat.reduceEqDiff,Nat.add_one_ne_zero,reduceCtorEq])|(refine Pwp.skip ?_;simp only [thenS,blockS])|(refine Pwp.cond rfl True.intro (fun h=>?_) (fun h=>?_)<;>(try (cases h;done))<;>(try simp only [h]))|refine Pwp.ret ?_|(refine hK _ ?_;clear hK K)|(refine hK _ _ rfl ?_;clear hK K)|refine CallG.off ?_|with_reducible refine Or.inl ?_|simp only [thenS,blockS]|with_reducible refine And.intro ?_ ?_|with_reducible exact True.intro|simp (dsimp:=false) only [↓gq,↓stepP,↓stepG,go_sem,hg,c1,w1,hll,beq_self_eq_true,Bool.and_self,Bool.not_true])
    all_goals (try (first|(intro hg;simp [hg];done)|exact of_decide_eq_true rfl|(cases h;done)))
    exact Sub.view V0 (by simp [L72x]) rfl (by simp [L72x,boxV]) (by simp [L72x,boxV])
  · have c1 := dge (Nat.le_refl m.ls.length)
    unfold L72x boxV
    repeat' (first|((first|refine goA rfl fun K hK=>?_|refine goB rfl fun K hK=>?_|refine goC rfl rfl fun K hK=>?_|refine goD rfl rfl fun K hK=>?_);simp (dsimp:=false) only [↓gq,↓stepP,↓stepG,go_sem,c1,hll])|refine Pwp.seq ?_|refine Pwp.block ?_|(refine Pwp.exit ?_;simp only [thenS,blockS,if_true,if_false,reduceIte,Nat.reduceEqDiff,Nat.add_one_ne_zero,reduceCtorEq])|(refine Pwp.skip ?_;simp only [thenS,blockS])|(refine Pwp.cond rfl True.intro (fun h=>?_) (fun h=>?_)<;>(try (cases h;done))<;>(try simp only [h]))|refine Pwp.ret ?_|(refine hK _ ?_;clear hK K)|(refine hK _ _ rfl ?_;clear hK K)|refine CallG.off ?_|with_reducible refine Or.inl ?_|simp only [thenS,blockS]|with_reducible refine And.intro ?_ ?_|with_reducible exact True.intro|simp (dsimp:=false) only [↓gq,↓stepP,↓stepG,go_sem,c1,hll])
    all_goals (try (first|(intro hg;simp [hg];done)|exact of_decide_eq_true rfl|(cases h;done)))
    refine Pwp.range m.ns.length (S := L72y m) (Sub.view V0 (by simp [L72y]) rfl (by simp [L72y,boxV]) (by simp [L72y,boxV])) (fun i hi => ?_) ?_
    · obtain ⟨x, hx, hm⟩ := at_lt hi
      have hg : (m.ns.map I64)[i]? = some (I64 x) := by simp [hx]
      have c2 := dlt hi
      have w2 := wrap_succ (i := i) (by omega)
      unfold L72y boxV
      repeat' (first|((first|refine goA rfl fun K hK=>?_|refine goB rfl fun K hK=>?_|refine goC rfl rfl fun K hK=>?_|refine goD rfl rfl fun K hK=>?_);simp (dsimp:=false) only [↓gq,↓stepP,↓stepG,go_sem,hg,c2,w2,hnl,bne_self_eq_false])|refine Pwp.seq ?_|refine Pwp.block ?_|(refine Pwp.exit ?_;simp only [thenS,blockS,if_true,if_false,reduceIte,Nat.reduceEqDiff,Nat.add_one_ne_zero,reduceCtorEq])|(refine Pwp.skip ?_;simp only [thenS,blockS])|(refine Pwp.cond rfl True.intro (fun h=>?_) (fun h=>?_)<;>(try (cases h;done))<;>(try simp only [h]))|refine Pwp.ret ?_|(refine hK _ ?_;clear hK K)|(refine hK _ _ rfl ?_;clear hK K)|refine CallG.off ?_|with_reducible refine Or.inl ?_|simp only [thenS,blockS]|with_reducible refine And.intro ?_ ?_|with_reducible exact True.intro|simp (dsimp:=false) only [↓gq,↓stepP,↓stepG,go_sem,hg,c2,w2,hnl,bne_self_eq_false])
      all_goals (try (first|(intro hg;simp [hg];done)|exact of_decide_eq_true rfl|(cases h;done)))
      exact Sub.view V0 (by simp [L72y]) rfl (by simp [L72y,boxV]) (by simp [L72y,boxV])
    · have c2 := dge (Nat.le_refl m.ns.length)
      unfold L72y boxV
      repeat' (first|((first|refine goA rfl fun K hK=>?_|refine goB rfl fun K hK=>?_|refine goC rfl rfl fun K hK=>?_|refine goD rfl rfl fun K hK=>?_);simp (dsimp:=false) only [↓gq,↓stepP,↓stepG,go_sem,c2,hnl])|refine Pwp.seq ?_|refine Pwp.block ?_|(refine Pwp.exit ?_;simp only [thenS,blockS,if_true,if_false,reduceIte,Nat.reduceEqDiff,Nat.add_one_ne_zero,reduceCtorEq])|(refine Pwp.skip ?_;simp only [thenS,blockS])|(refine Pwp.cond rfl True.intro (fun h=>?_) (fun h=>?_)<;>(try (cases h;done))<;>(try simp only [h]))|refine Pwp.ret ?_|(refine hK _ ?_;clear hK K)|(refine hK _ _ rfl ?_;clear hK K)|refine CallG.off ?_|with_reducible refine Or.inl ?_|simp only [thenS,blockS]|with_reducible refine And.intro ?_ ?_|with_reducible exact True.intro|simp (dsimp:=false) only [↓gq,↓stepP,↓stepG,go_sem,c2,hnl])
      all_goals (try (first|(intro hg;simp [hg];done)|exact of_decide_eq_true rfl|(cases h;done)))
      (refine Fin.data (.inr rfl) (by simp (dsimp:=false) only [↓gq,↓stepP,↓stepG,go_sem,resL]; rfl) (by simp only [and_self]) (by simp (dsimp:=false) only [↓gq,↓stepP,↓stepG,go_sem,resP,Nat.le_refl,List.take_length]; try rfl) ?_)
      exact subD_refl _
end Go.Proofs.Ytdodgbhodkcckaa.Pv
end
section
set_option linter.unusedVariables false
set_option linter.unusedSimpArgs false
set_option autoImplicit false
set_option maxRecDepth 100000
namespace Go.Proofs.Ytdodgbhodkcckaa.Pv
open Go Go.RowKit
def refBad (m : VMsg) (f : Int) : Bool := (((m.kind != 10 && m.kind != 12) && m.kind != 14) && m.kind != 16) || !((m.kind == 16) == (f == -1))
def partAt (q : VP) (n : Int) : Part := (q.list[(fndC n 0 q.list).toNat]?).getD Part.zero
def refLate (q : VP) (m : VMsg) : Bool := decide (3 < (partAt q m.cycle).state) || ((m.kind == 14 && m.yes) && (partAt q m.cycle).state != 2)
def refDo (q : VP) (l w : List Item) (m : VMsg) (f : Int) : ROutV :=
  if refBad m f = true then ⟨110, q, w, none⟩ else if (f != -1 && f != q.n) = true then ⟨140, q, w, none⟩
  else if (m.kind == 10) = true then askRR q l w m.msg else if decide (fndC m.cycle 0 q.list < 0) = true then ⟨4, q, w, none⟩
  else if (m.kind == 12) = true then (if ((partAt q m.cycle).state != 1) = true then ⟨90, q, w, none⟩
    else if rightR q l m.cycle m.ls m.ns = true then ⟨0, { q with list := withL q.list { partAt q m.cycle with state := 2, lines := (partAt q m.cycle).lines ++ mineL q.me m.ls } }, w, some (saidD q.n (voteM m.cycle true))⟩
    else ⟨0, { q with list := withL q.list { partAt q m.cycle with state := 3 } }, w, some (saidD q.n (voteM m.cycle false))⟩)
  else if refLate q m = true then ⟨90, q, w, none⟩
  else if (m.kind == 16) = true then ⟨0, q, w, some (saidD q.n (queryM m.cycle))⟩
  else ⟨0, { q with list := withL q.list { partAt q m.cycle with state := if m.yes = true then 4 else 5 } }, w.map (gEnd m.yes (partAt q m.cycle).lines m.cycle), none⟩
set_option maxHeartbeats 64000000 in
theorem run71a (q : VP) (me : Int) (l w : List Item) (m : VMsg) (f : Int) (hR : RelI me l w) (hw : w.length ≤ 10000) (hq : q.list.length ≤ 10000) (h : refBad m f = true ∨ (f != -1 && f != q.n) = true ∨ m.kind = 10) :
    Runs Try.prog 71 [.d q.dN, .d (rdD w).d, .d m.msg.d, pint .i64 f] [] (.d (rvD (refDo q l w m f))) [] := by
  have r126 := run126 q me l w m.msg hR hw hq
  have e1 : ∀ r : ROutV, rvD r = .tup [r.q.dN, (rdD r.w).d, .slc 12 r.o.toList, I64 r.e] := fun _ => rfl
  unfold refDo
  cases hb : refBad m f with
  | true =>
    rw [if_pos rfl, e1]
    unfold refBad at hb
    unfold VP.dN rdD RDesk.d RDesk.cells VMsg.msg Msg.d Msg.cells
    refine Runs.of (kit Try.prog) Try.func71 rfl rfl (by rw [Try.ntmps71]; exact of_decide_eq_true rfl) ?_; rw [Try.ntmps71, Try.results71]
    repeat' (first|((first|refine goA rfl fun K hK=>?_|refine goB rfl fun K hK=>?_|refine goC rfl rfl fun K hK=>?_|refine goD rfl rfl fun K hK=>?_);simp (dsimp:=false) only [↓gq,↓stepP,↓stepG,go_sem,hb])|refine Pwp.seq ?_|refine Pwp.block ?_|(refine Pwp.exit ?_;simp only [thenS,blockS,if_true,if_false,reduceIte,Nat.reduceEqDiff,Nat.add_one_ne_zero,reduceCtorEq])|(refine Pwp.skip ?_;simp only [thenS,blockS])|(refine Pwp.cond rfl True.intro (fun h=>?_) (fun h=>?_)<;>(try (cases h;done))<;>(try simp only [h]))|refine Pwp.ret ?_|(refine hK _ ?_;clear hK K)|(refine hK _ _ rfl ?_;clear hK K)|refine CallG.off ?_|with_reducible refine Or.inl ?_|simp only [thenS,blockS]|with_reducible refine And.intro ?_ ?_|with_reducible exact True.intro|simp (dsimp:=false) only [↓gq,↓stepP,↓stepG,go_sem,hb])
    all_goals (try (first|(intro hg;simp [hg];done)|exact of_decide_eq_true rfl|(cases h;done)))
    all_goals (try (intro hg; simp only [hg, Bool.not_false, Bool.not_true, Bool.and_self, Bool.true_and, Bool.and_true, true_and, and_self, imp_self, implies_true]; done))
    (refine Fin.data (.inr rfl) (by simp (dsimp:=false) only [↓gq,↓stepP,↓stepG,go_sem,resL]; rfl) (by simp only [and_self]) (by simp (dsimp:=false) only [↓gq,↓stepP,↓stepG,go_sem,resP,Nat.le_refl,List.take_length]; try rfl) ?_)
    simp [subD, subL, subV, subD_refl]
  | false =>
    rw [if_neg (by simp)]
    have hb2 := hb
    unfold refBad at hb
    cases hc : (f != -1 && f != q.n) with
    | true =>
      rw [if_pos rfl, e1]
      unfold VP.dN rdD RDesk.d RDesk.cells VMsg.msg Msg.d Msg.cells
      refine Runs.of (kit Try.prog) Try.func71 rfl rfl (by rw [Try.ntmps71]; exact of_decide_eq_true rfl) ?_; rw [Try.ntmps71, Try.results71]
      repeat' (first|((first|refine goA rfl fun K hK=>?_|refine goB rfl fun K hK=>?_|refine goC rfl rfl fun K hK=>?_|refine goD rfl rfl fun K hK=>?_);simp (dsimp:=false) only [↓gq,↓stepP,↓stepG,go_sem,hb,hc])|refine Pwp.seq ?_|refine Pwp.block ?_|(refine Pwp.exit ?_;simp only [thenS,blockS,if_true,if_false,reduceIte,Nat.reduceEqDiff,Nat.add_one_ne_zero,reduceCtorEq])|(refine Pwp.skip ?_;simp only [thenS,blockS])|(refine Pwp.cond rfl True.intro (fun h=>?_) (fun h=>?_)<;>(try (cases h;done))<;>(try simp only [h]))|refine Pwp.ret ?_|(refine hK _ ?_;clear hK K)|(refine hK _ _ rfl ?_;clear hK K)|refine CallG.off ?_|with_reducible refine Or.inl ?_|simp only [thenS,blockS]|with_reducible refine And.intro ?_ ?_|with_reducible exact True.intro|simp (dsimp:=false) only [↓gq,↓stepP,↓stepG,go_sem,hb,hc])
      all_goals (try (first|(intro hg;simp [hg];done)|exact of_decide_eq_true rfl|(cases h;done)))
      all_goals (try (intro hg; simp only [hg, Bool.not_false, Bool.not_true, Bool.and_self, Bool.true_and, Bool.and_true, true_and, and_self, imp_self, implies_true]; done))
      (refine Fin.data (.inr rfl) (by simp (dsimp:=false) only [↓gq,↓stepP,↓stepG,go_sem,resL]; rfl) (by simp only [and_self]) (by simp (dsimp:=false) only [↓gq,↓stepP,↓stepG,go_sem,resP,Nat.le_refl,List.take_length]; try rfl) ?_)
      simp [subD, subL, subV, subD_refl]
    | false =>
      have hk : m.kind = 10 := by
        rcases h with h | h | h
        · rw [hb2] at h; cases h
        · rw [hc] at h; cases h
        · exact h
      have hk1 : (m.kind == 10) = true := by simp [hk]
      rw [if_neg (by simp), if_pos hk1]
      rw [e1] at r126 ⊢
      generalize askRR q l w m.msg = R at *
      unfold VP.dN rdD RDesk.d RDesk.cells VMsg.msg Msg.d Msg.cells at *
      refine Runs.of (kit Try.prog) Try.func71 rfl rfl (by rw [Try.ntmps71]; exact of_decide_eq_true rfl) ?_; rw [Try.ntmps71, Try.results71]
      repeat' (first|((first|refine goA rfl fun K hK=>?_|refine goB rfl fun K hK=>?_|refine goC rfl rfl fun K hK=>?_|refine goD rfl rfl fun K hK=>?_);simp (dsimp:=false) only [↓gq,↓stepP,↓stepG,go_sem,hb,hc,hk1])|refine Pwp.seq ?_|refine Pwp.block ?_|(refine Pwp.exit ?_;simp only [thenS,blockS,if_true,if_false,reduceIte,Nat.reduceEqDiff,Nat.add_one_ne_zero,reduceCtorEq])|(refine Pwp.skip ?_;simp only [thenS,blockS])|(refine Pwp.cond rfl True.intro (fun h=>?_) (fun h=>?_)<;>(try (cases h;done))<;>(try simp only [h]))|refine Pwp.ret ?_|(refine hK _ ?_;clear hK K)|(refine hK _ _ rfl ?_;clear hK K)|(refine CallK.give (ds:=[.agg [I64 q.me, I64 q.n, .slc 4 (partsN q.list)], .agg [I64 0, I64 0, .slc 8 (itemsD w), .slc 3 (ordersD [])], .agg [I64 m.kind, I64 m.seller, I64 m.number, I64 m.buyer, I64 m.currency, I64 m.round, I64 m.cycle, I64 m.amount, .v (.bool m.yes), .slc 4 (linesD m.ls), .slc 1 (m.ns.map I64)]]) rfl (r126) (by simp) ?_)|refine CallG.off ?_|with_reducible refine Or.inl ?_|simp only [thenS,blockS]|with_reducible refine And.intro ?_ ?_|with_reducible exact True.intro|simp (dsimp:=false) only [↓gq,↓stepP,↓stepG,go_sem,hb,hc,hk1])
      all_goals (try (first|(intro hg;simp [hg];done)|exact of_decide_eq_true rfl|(cases h;done)))
      all_goals (try (intro hg; simp only [hg, Bool.not_false, Bool.not_true, Bool.and_self, Bool.true_and, Bool.and_true, true_and, and_self, imp_self, implies_true]; done))
      (refine Fin.data (.inr rfl) (by simp (dsimp:=false) only [↓gq,↓stepP,↓stepG,go_sem,resL]; rfl) (by simp only [and_self]) (by simp (dsimp:=false) only [↓gq,↓stepP,↓stepG,go_sem,resP,Nat.le_refl,List.take_length]; try rfl) ?_)
      exact subD_refl _
end Go.Proofs.Ytdodgbhodkcckaa.Pv
end
section
set_option linter.unusedVariables false
set_option linter.unusedSimpArgs false
set_option autoImplicit false
set_option maxRecDepth 100000
namespace Go.Proofs.Ytdodgbhodkcckaa.Pv
open Go Go.RowKit
set_option maxHeartbeats 64000000 in
theorem run71b (q : VP) (l w : List Item) (m : VMsg) (f : Int) (hq : q.list.length ≤ 10000) (hb : refBad m f = false) (hc : (f != -1 && f != q.n) = false) (hk : (m.kind == 10) = false) (hf : fndC m.cycle 0 q.list = -1) :
    Runs Try.prog 71 [.d q.dN, .d (rdD w).d, .d m.msg.d, pint .i64 f] [] (.d (rvD (refDo q l w m f))) [] := by
  have r127 := run127 q m.cycle (by omega)
  rw [hf] at r127
  have e1 : ∀ r : ROutV, rvD r = .tup [r.q.dN, (rdD r.w).d, .slc 12 r.o.toList, I64 r.e] := fun _ => rfl
  have cm : decide ((-1 : Int) < 0) = true := rfl
  unfold refDo
  rw [hb, hc, hk, hf, if_neg (by simp), if_neg (by simp), if_neg (by simp), if_pos cm, e1]
  unfold refBad at hb
  unfold VP.dN rdD RDesk.d RDesk.cells VMsg.msg Msg.d Msg.cells at *
  refine Runs.of (kit Try.prog) Try.func71 rfl rfl (by rw [Try.ntmps71]; exact of_decide_eq_true rfl) ?_; rw [Try.ntmps71, Try.results71]
  repeat' (first|((first|refine goA rfl fun K hK=>?_|refine goB rfl fun K hK=>?_|refine goC rfl rfl fun K hK=>?_|refine goD rfl rfl fun K hK=>?_);simp (dsimp:=false) only [↓gq,↓stepP,↓stepG,go_sem,hb,hc,hk,cm])|refine Pwp.seq ?_|refine Pwp.block ?_|(refine Pwp.exit ?_;simp only [thenS,blockS,if_true,if_false,reduceIte,Nat.reduceEqDiff,Nat.add_one_ne_zero,reduceCtorEq])|(refine Pwp.skip ?_;simp only [thenS,blockS])|(refine Pwp.cond rfl True.intro (fun h=>?_) (fun h=>?_)<;>(try (cases h;done))<;>(try simp only [h]))|refine Pwp.ret ?_|(refine hK _ ?_;clear hK K)|(refine hK _ _ rfl ?_;clear hK K)|(refine CallK.toD (ds:=[.agg [I64 q.me, I64 q.n, .slc 4 (partsN q.list)], I64 m.cycle]) rfl (r127) rfl ?_)|refine CallG.off ?_|with_reducible refine Or.inl ?_|simp only [thenS,blockS]|with_reducible refine And.intro ?_ ?_|with_reducible exact True.intro|simp (dsimp:=false) only [↓gq,↓stepP,↓stepG,go_sem,hb,hc,hk,cm])
  all_goals (try (first|(intro hg;simp [hg];done)|exact of_decide_eq_true rfl|(cases h;done)))
  all_goals (try (intro hg; simp only [hg, Bool.not_false, Bool.not_true, Bool.and_self, Bool.true_and, Bool.and_true, true_and, and_self, imp_self, implies_true]; done))
  (refine Fin.data (.inr rfl) (by simp (dsimp:=false) only [↓gq,↓stepP,↓stepG,go_sem,resL]; rfl) (by simp only [and_self]) (by simp (dsimp:=false) only [↓gq,↓stepP,↓stepG,go_sem,resP,Nat.le_refl,List.take_length]; try rfl) ?_)
  simp [subD, subL, subV, subD_refl]
end Go.Proofs.Ytdodgbhodkcckaa.Pv
end
