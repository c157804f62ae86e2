/- Claims: may it be a note: the document's. Claims: may they be notes: the .. -/
import Derived.Test.YtkikaagieknpdaaGreatCl40
import Derived.Test.YtkikaagieknpdaaGreatCl41
import Derived.Test.YtkikaagieknpdaaGreatCl42
import Derived.Test.YtkikaagieknpdaaGreatTBk15
import Derived.Test.YtkikaagieknpdaaGreatTMl9
import Derived.Test.YtkikaagieknpdaaGreatBk20
import Derived.Test.YtkikaagieknpdaaGreatTRt15
import Derived.Test.YtkikaagieknpdaaGreatAbG8
import Derived.Test.YtkikaagieknpdaaGreatTRt12
set_option linter.unusedSimpArgs false
set_option linter.unusedVariables false
set_option linter.constructorNameAsVariable false
set_option maxRecDepth 100000
open Nat (reduceAdd reduceMul reduceEqDiff reduceLeDiff)
open Int (reduceLE reduceLT reduceEq reduceNe)
namespace Go.Ab
open Go Go.Proofs Go.RowKit
theorem rnote_call (c : Conf) (who : Int) (n : NoteD) : PCall Tryz.prog 93 [ConfA c, .c (.int .i64 who), NoteV n] (.c (.bool (decide (NoteOk c who n)))) := by
 by_cases hA : n.t = 0 ∧ n.w = 0 ∧ n.a = 0
 · exact rnote_A c who n hA
 by_cases hB : MaySt n.t n.w c.n ∧ n.w = who ∧ 1 ≤ n.a ∧ n.a ≤ 1099511627776
 · exact rnote_B c who n hB
 have hn : ¬ NoteOk c who n := fun h => h.2.1.elim hA hB
 by_cases h1 : n.t = 0
 · by_cases h2 : n.w = 0
   · exact rnote_C1 c who n hn h1 h2 fun h => hA ⟨h1, h2, h⟩
   · exact rnote_C2 c who n hn h1 h2
 by_cases h4 : MaySt n.t n.w c.n
 · by_cases h5 : n.w = who
   · by_cases h6 : n.a > 0
     · exact rnote_C6 c who n hn h1 h4 h5 h6 fun h => hB ⟨h4, h5, by omega, h⟩
     · exact rnote_C5 c who n hn h1 h4 h5 h6
   · exact rnote_C4 c who n hn h1 h4 h5
 · exact rnote_C3 c who n hn h1 h4
end Go.Ab
namespace Go.Ab
open Go Go.Proofs Go.RowKit
set_option maxHeartbeats 2000000 in
theorem rmayn_call (c : Conf) (who : Int) (l : List NoteD) (hl : l.length ≤ 1000000000) : PCall Tryz.prog 54 [ConfA c, .c (.int .i64 who), NotesV l] (.c (.bool (decide (MayN c who l)))) := by
 refine pcall_body tabOk Tryz.func54 rfl rfl (by rw [Tryz.ntmps54]; simp) ?_
 simp only [Tryz.ntmps54, ConfA, NotesV]
 simp only [↓wt, wz, reduceAdd, reduceMul, reduceEqDiff, reduceLeDiff, Nat.reduceLT, reduceLE, reduceLT, reduceEq, reduceNe]
 refine icall_drop [] (rrtmay_call c) ⟨arg_conf', trivial⟩ (.c _) ?_
 simp only [↓wt, wz, reduceAdd, reduceMul, reduceEqDiff, reduceLeDiff, Nat.reduceLT, reduceLE, reduceLT, reduceEq, reduceNe]
 repeat' (first | ((first | refine r_casesD (fun hp hb => ?_) (fun hp hb => ?_) | refine r_casesN (fun hp hb => ?_) (fun hp hb => ?_) | refine r_casesM (fun hp hb => ?_) (fun hp hb => ?_) | refine r_casesB (fun hp hb => ?_) (fun hp hb => ?_) | refine r_gcasesD (fun hp hb => ?_) (fun hp hb => ?_) | refine r_gcasesN (fun hp hb => ?_) (fun hp hb => ?_) | refine r_gcasesM (fun hp hb => ?_) (fun hp hb => ?_) | refine r_gcasesB (fun hp hb => ?_) (fun hp hb => ?_)) <;> simp only [↓wt, wz, reduceAdd, reduceMul, reduceEqDiff, reduceLeDiff, Nat.reduceLT, reduceLE, reduceLT, reduceEq, reduceNe, Tryz.results54, hb]) | ((with_reducible refine And.intro ?_ ?_); omega) | fail)
 all_goals try exact exp_bF (p := MayN c who l) fun h => by obtain ⟨⟨g0, g1⟩, g2, g3⟩ := h; unfold There at g1; first | omega | contradiction
 rename_i hmc _ _ _ _ _
 have hw : 0 ≤ who ∧ who < c.n := by omega
 refine freeze_rule 0 [1, 2, 3, 7] (by simp only [↓wt, wz, reduceAdd, reduceMul, reduceEqDiff, reduceLeDiff, Nat.reduceLT, reduceLE, reduceLT, reduceEq, reduceNe, underL_N]; (try (repeat' (first | (exact fun _ => by simp only [pureL_eq, underL_cons, underL_nil, AV.cells, under_l, under_c, under_g, under_e, under_f, underL_B, underL_I, underL_Bs, under_Bs, List.mem_cons, List.not_mem_nil, or_false, forall_eq_or_imp, forall_eq, and_self, and_true, true_and, underL_N]) | ((with_reducible refine And.intro ?_ ?_)) | (intro _) | omega | (simp only [pureL_eq, underL_cons, underL_nil, AV.cells, under_l, under_c, under_g, under_e, under_f, underL_B, underL_I, underL_Bs, under_Bs, List.mem_cons, List.not_mem_nil, or_false, forall_eq_or_imp, forall_eq, and_self, and_true, true_and, underL_N])))); done) (by simp only [↓wt, wz, reduceAdd, reduceMul, reduceEqDiff, reduceLeDiff, Nat.reduceLT, reduceLE, reduceLT, reduceEq, reduceNe, underL_N]; (try (repeat' (first | (exact fun _ => by simp only [pureL_eq, underL_cons, underL_nil, AV.cells, under_l, under_c, under_g, under_e, under_f, underL_B, underL_I, underL_Bs, under_Bs, List.mem_cons, List.not_mem_nil, or_false, forall_eq_or_imp, forall_eq, and_self, and_true, true_and, underL_N]) | ((with_reducible refine And.intro ?_ ?_)) | (intro _) | omega | (simp only [pureL_eq, underL_cons, underL_nil, AV.cells, under_l, under_c, under_g, under_e, under_f, underL_B, underL_I, underL_Bs, under_Bs, List.mem_cons, List.not_mem_nil, or_false, forall_eq_or_imp, forall_eq, and_self, and_true, true_and, underL_N])))); done) ?_; simp only [↓wt, wz, reduceAdd, reduceMul, reduceEqDiff, reduceLeDiff, Nat.reduceLT, reduceLE, reduceLT, reduceEq, reduceNe, underL_N]
 refine loop_ruleC tabOk [1, 2, 3] (fun k : Nat => [(7, .c (.int .i64 k))]) (fun k => k ≤ l.length ∧ ∀ j, j < k → NoteOk c j (noteAt l j) ∧ (j = who → noteAt l j = note0)) (fun k => l.length - k) 0 ⟨by omega, fun j h => by omega⟩ ?_ ?_
 · simp only [↓wt, wz, wkf, reduceAdd, reduceMul, reduceEqDiff, reduceLeDiff, Nat.reduceLT, reduceLE, reduceLT, reduceEq, reduceNe, underL_N, under_e]
   try trivial
 · rintro k ⟨hk, hG⟩
   simp only [↓wt, wz, reduceAdd, reduceMul, reduceEqDiff, reduceLeDiff, Nat.reduceLT, reduceLE, reduceLT, reduceEq, reduceNe]
   repeat' (first | ((first | refine r_casesD (fun hp hb => ?_) (fun hp hb => ?_) | refine r_casesN (fun hp hb => ?_) (fun hp hb => ?_) | refine r_casesM (fun hp hb => ?_) (fun hp hb => ?_) | refine r_casesB (fun hp hb => ?_) (fun hp hb => ?_) | refine r_gcasesD (fun hp hb => ?_) (fun hp hb => ?_) | refine r_gcasesN (fun hp hb => ?_) (fun hp hb => ?_) | refine r_gcasesM (fun hp hb => ?_) (fun hp hb => ?_) | refine r_gcasesB (fun hp hb => ?_) (fun hp hb => ?_)) <;> simp only [↓wt, wz, reduceAdd, reduceMul, reduceEqDiff, reduceLeDiff, Nat.reduceLT, reduceLE, reduceLT, reduceEq, reduceNe, hb]) | ((with_reducible refine And.intro ?_ ?_); omega) | fail)
   · have hkl : k < l.length := by omega
     have e3 := wi_succ (k := k) (by omega)
     refine draw_rule tabOk mixed [0, 0, 0, 0, 0, 0, 1, 0, 0, 0, 0, 0, 0, 0, 0, 0, 0, 1, 0, 0, 0] [[], [], [], [], [2, 3], [2, 3, 4], [0, 1, 2, 3, 4, 5], [0, 1, 2, 3, 4, 5, 6], [0, 1, 2, 3, 4, 5, 6, 7], [0, 1, 2, 3, 4, 5, 6, 7, 8], [0, 1, 2, 3, 4, 5, 6, 7, 8], [0, 1, 2, 3, 4, 5, 6, 7, 8, 9, 10], [0, 1, 2, 3, 4, 5, 6, 7, 8, 9, 10, 11], [0, 1, 2, 3, 4, 5, 6, 7, 8, 9, 10, 11, 12], [0, 1, 2, 3, 4, 5, 6, 7, 8, 9, 10, 11, 12], [0, 1, 2, 3, 4, 5, 6, 7, 8, 9, 10, 11, 12, 13, 14], [0, 1, 2, 3, 4, 5, 6, 7, 8, 9, 10, 11, 12, 13, 14, 15], [0, 1, 2, 3, 4, 5, 6, 7, 8, 9, 10, 11, 12], [0, 1, 2, 3, 4, 5, 6, 7, 8, 9, 10, 11, 12, 13, 14, 15, 16, 17], [0, 1, 2, 3, 4, 5, 6, 7, 8, 9, 10, 11, 12, 13, 14, 15, 16, 17, 18], [0, 1, 2, 3, 4, 5, 6, 7, 8, 9, 10, 11, 12, 13, 14, 15, 16, 17, 18, 19]] (by kernel_rfl) ?_
     simp only [↓wt, wz, reduceAdd, reduceMul, reduceEqDiff, reduceLeDiff, Nat.reduceLT, reduceLE, reduceLT, reduceEq, reduceNe, elem_N, NoteV_eq]
     repeat (refine And.intro (by omega) ?_)
     refine d_heavyC (icall_drop [] (rnote_call c k (noteAt l k)) ⟨arg_conf', arg_c, arg_note, trivial⟩ (.c _) ⟨rfl, rfl⟩) ?_
     simp only [↓wt, wz, reduceAdd, reduceMul, reduceEqDiff, reduceLeDiff, Nat.reduceLT, reduceLE, reduceLT, reduceEq, reduceNe]
     repeat' (first | ((first | refine r_casesD (fun hp hb => ?_) (fun hp hb => ?_) | refine r_casesN (fun hp hb => ?_) (fun hp hb => ?_) | refine r_casesM (fun hp hb => ?_) (fun hp hb => ?_) | refine r_casesB (fun hp hb => ?_) (fun hp hb => ?_) | refine r_gcasesD (fun hp hb => ?_) (fun hp hb => ?_) | refine r_gcasesN (fun hp hb => ?_) (fun hp hb => ?_) | refine r_gcasesM (fun hp hb => ?_) (fun hp hb => ?_) | refine r_gcasesB (fun hp hb => ?_) (fun hp hb => ?_)) <;> simp only [↓wt, wz, reduceAdd, reduceMul, reduceEqDiff, reduceLeDiff, Nat.reduceLT, reduceLE, reduceLT, reduceEq, reduceNe, elem_N, NoteV_eq, hb]) | ((with_reducible refine And.intro ?_ ?_); omega) | fail)
     · rename_i hn _
       have hw2 := hp
       refine d_heavyX (by simp only [↓wt, wz, reduceAdd, reduceMul, reduceEqDiff, reduceLeDiff, Nat.reduceLT, reduceLE, reduceLT, reduceEq, reduceNe]; (repeat (first | refine And.intro (by omega) ?_ | refine And.intro (pureB _) ?_ | refine And.intro (pureI _) ?_ | refine And.intro ⟨pureB _, pureB _⟩ ?_ | refine And.intro ⟨pureB _, pureI _⟩ ?_ | refine And.intro ⟨pureI _, pureB _⟩ ?_ | refine And.intro ⟨pureI _, pureI _⟩ ?_)); exact ⟨rfl, rfl⟩) ?_
       simp only [↓wt, wz, reduceAdd, reduceMul, reduceEqDiff, reduceLeDiff, Nat.reduceLT, reduceLE, reduceLT, reduceEq, reduceNe, note_neq0]
       repeat' (first | ((first | refine r_casesD (fun hp hb => ?_) (fun hp hb => ?_) | refine r_casesN (fun hp hb => ?_) (fun hp hb => ?_) | refine r_casesM (fun hp hb => ?_) (fun hp hb => ?_) | refine r_casesB (fun hp hb => ?_) (fun hp hb => ?_) | refine r_gcasesD (fun hp hb => ?_) (fun hp hb => ?_) | refine r_gcasesN (fun hp hb => ?_) (fun hp hb => ?_) | refine r_gcasesM (fun hp hb => ?_) (fun hp hb => ?_) | refine r_gcasesB (fun hp hb => ?_) (fun hp hb => ?_)) <;> simp only [↓wt, wz, reduceAdd, reduceMul, reduceEqDiff, reduceLeDiff, Nat.reduceLT, reduceLE, reduceLT, reduceEq, reduceNe, note_neq0, e3, Tryz.results54, hb]) | ((with_reducible refine And.intro ?_ ?_); omega) | fail)
       · refine ⟨k + 1, ⟨by omega, fun j hj => ?_⟩, by omega, ?_⟩
         · rcases Nat.lt_or_ge j k with h | h
           · exact hG j h
           · have : j = k := by omega
             subst this
             exact ⟨hn, fun _ => by assumption⟩
         · simp only [↓wt, wz, wkf, reduceAdd, reduceMul, reduceEqDiff, reduceLeDiff, Nat.reduceLT, reduceLE, reduceLT, reduceEq, reduceNe, e3, underL_N, under_e]
           try trivial
       · exact exp_bF (p := MayN c who l) fun h => hp ((h.2.2 k hkl).2 hw2)
     · rename_i hn _
       have hw2 := hp
       repeat' (first | ((first | refine r_casesD (fun hp hb => ?_) (fun hp hb => ?_) | refine r_casesN (fun hp hb => ?_) (fun hp hb => ?_) | refine r_casesM (fun hp hb => ?_) (fun hp hb => ?_) | refine r_casesB (fun hp hb => ?_) (fun hp hb => ?_) | refine r_gcasesD (fun hp hb => ?_) (fun hp hb => ?_) | refine r_gcasesN (fun hp hb => ?_) (fun hp hb => ?_) | refine r_gcasesM (fun hp hb => ?_) (fun hp hb => ?_) | refine r_gcasesB (fun hp hb => ?_) (fun hp hb => ?_)) <;> simp only [↓wt, wz, reduceAdd, reduceMul, reduceEqDiff, reduceLeDiff, Nat.reduceLT, reduceLE, reduceLT, reduceEq, reduceNe, note_neq0, e3, Tryz.results54, hb]) | ((with_reducible refine And.intro ?_ ?_); omega) | fail)
       refine ⟨k + 1, ⟨by omega, fun j hj => ?_⟩, by omega, ?_⟩
       · rcases Nat.lt_or_ge j k with h | h
         · exact hG j h
         · have : j = k := by omega
           subst this
           exact ⟨hn, fun h => absurd h hw2⟩
       · simp only [↓wt, wz, wkf, reduceAdd, reduceMul, reduceEqDiff, reduceLeDiff, Nat.reduceLT, reduceLE, reduceLT, reduceEq, reduceNe, e3, underL_N, under_e]
         try trivial
     · simp only [↓wt, wz, reduceAdd, reduceMul, reduceEqDiff, reduceLeDiff, Nat.reduceLT, reduceLE, reduceLT, reduceEq, reduceNe, Tryz.results54]
       exact exp_bF (p := MayN c who l) fun h => hp (h.2.2 k hkl).1
   · have hk2 : k = l.length := by omega
     subst hk2
     simp only [↓wt, wz, reduceAdd, reduceMul, reduceEqDiff, reduceLeDiff, Nat.reduceLT, reduceLE, reduceLT, reduceEq, reduceNe, Tryz.results54]
     exact exp_bT (p := MayN c who l) ⟨⟨hmc, hw⟩, by omega, hG⟩
theorem csame_call (a b : List NoteD) (ha : a.length ≤ 1000000000) : PCall Tryz.prog 28 [NotesV a, NotesV b] (.c (.bool (decide (a = b)))) := by
 refine pcall_body tabOk Tryz.func28 rfl rfl (by rw [Tryz.ntmps28]; simp) ?_
 simp only [Tryz.ntmps28, NotesV]
 simp only [↓wt, wz, reduceAdd, reduceMul, reduceEqDiff, reduceLeDiff, Nat.reduceLT, reduceLE, reduceLT, reduceEq, reduceNe]
 repeat' (first | ((first | refine r_casesD (fun hp hb => ?_) (fun hp hb => ?_) | refine r_casesN (fun hp hb => ?_) (fun hp hb => ?_) | refine r_casesM (fun hp hb => ?_) (fun hp hb => ?_) | refine r_casesB (fun hp hb => ?_) (fun hp hb => ?_) | refine r_gcasesD (fun hp hb => ?_) (fun hp hb => ?_) | refine r_gcasesN (fun hp hb => ?_) (fun hp hb => ?_) | refine r_gcasesM (fun hp hb => ?_) (fun hp hb => ?_) | refine r_gcasesB (fun hp hb => ?_) (fun hp hb => ?_)) <;> simp only [↓wt, wz, reduceAdd, reduceMul, reduceEqDiff, reduceLeDiff, Nat.reduceLT, reduceLE, reduceLT, reduceEq, reduceNe, Tryz.results28, hb]) | ((with_reducible refine And.intro ?_ ?_); omega) | fail)
 rotate_left
 · exact exp_bF (p := a = b) fun h => by subst h; first | omega | contradiction
 have hl : a.length = b.length := by omega
 refine loop_ruleC tabOk [0, 1] (fun k : Nat => [(5, .c (.int .i64 k))]) (fun k => k ≤ a.length ∧ ∀ j, j < k → noteAt a j = noteAt b j) (fun k => a.length - k) 0 ⟨by omega, fun j h => by omega⟩ ?_ ?_
 · simp only [↓wt, wz, wkf, reduceAdd, reduceMul, reduceEqDiff, reduceLeDiff, Nat.reduceLT, reduceLE, reduceLT, reduceEq, reduceNe, underL_N, under_e]
   try trivial
 · rintro k ⟨hk, hG⟩
   simp only [↓wt, wz, reduceAdd, reduceMul, reduceEqDiff, reduceLeDiff, Nat.reduceLT, reduceLE, reduceLT, reduceEq, reduceNe]
   repeat' (first | ((first | refine r_casesD (fun hp hb => ?_) (fun hp hb => ?_) | refine r_casesN (fun hp hb => ?_) (fun hp hb => ?_) | refine r_casesM (fun hp hb => ?_) (fun hp hb => ?_) | refine r_casesB (fun hp hb => ?_) (fun hp hb => ?_) | refine r_gcasesD (fun hp hb => ?_) (fun hp hb => ?_) | refine r_gcasesN (fun hp hb => ?_) (fun hp hb => ?_) | refine r_gcasesM (fun hp hb => ?_) (fun hp hb => ?_) | refine r_gcasesB (fun hp hb => ?_) (fun hp hb => ?_)) <;> simp only [↓wt, wz, reduceAdd, reduceMul, reduceEqDiff, reduceLeDiff, Nat.reduceLT, reduceLE, reduceLT, reduceEq, reduceNe, hb]) | ((with_reducible refine And.intro ?_ ?_); omega) | fail)
   · have hkl : k < a.length := by omega
     have e3 := wi_succ (k := k) (by omega)
     refine draw_rule tabOk mixed [0, 0, 0, 0, 0, 0, 0, 0, 0] [[], [], [0, 1], [0, 1, 2], [], [], [4, 5], [4, 5, 6], [0, 1, 2, 3, 4, 5, 6, 7]] (by kernel_rfl) ?_
     simp only [↓wt, wz, reduceAdd, reduceMul, reduceEqDiff, reduceLeDiff, Nat.reduceLT, reduceLE, reduceLT, reduceEq, reduceNe, elem_N, NoteV_eq, note_neq]
     repeat (refine And.intro (by omega) ?_)
     repeat' (first | ((first | refine r_casesD (fun hp hb => ?_) (fun hp hb => ?_) | refine r_casesN (fun hp hb => ?_) (fun hp hb => ?_) | refine r_casesM (fun hp hb => ?_) (fun hp hb => ?_) | refine r_casesB (fun hp hb => ?_) (fun hp hb => ?_) | refine r_gcasesD (fun hp hb => ?_) (fun hp hb => ?_) | refine r_gcasesN (fun hp hb => ?_) (fun hp hb => ?_) | refine r_gcasesM (fun hp hb => ?_) (fun hp hb => ?_) | refine r_gcasesB (fun hp hb => ?_) (fun hp hb => ?_)) <;> simp only [↓wt, wz, reduceAdd, reduceMul, reduceEqDiff, reduceLeDiff, Nat.reduceLT, reduceLE, reduceLT, reduceEq, reduceNe, e3, Tryz.results28, hb]) | ((with_reducible refine And.intro ?_ ?_); omega) | fail)
     · refine ⟨k + 1, ⟨by omega, fun j hj => ?_⟩, by omega, ?_⟩
       · rcases Nat.lt_or_ge j k with h | h
         · exact hG j h
         · have : j = k := by omega
           subst this
           assumption
       · simp only [↓wt, wz, wkf, reduceAdd, reduceMul, reduceEqDiff, reduceLeDiff, Nat.reduceLT, reduceLE, reduceLT, reduceEq, reduceNe, e3, underL_N, under_e]
         try trivial
     · exact exp_bF (p := a = b) fun h => by subst h; first | omega | contradiction
   · simp only [↓wt, wz, reduceAdd, reduceMul, reduceEqDiff, reduceLeDiff, Nat.reduceLT, reduceLE, reduceLT, reduceEq, reduceNe, Tryz.results28]
     exact exp_bT (p := a = b) (notes_ext hl fun j hj => hG j (by omega))
end Go.Ab
namespace Go.Ab
open Go Go.Proofs Go.RowKit
theorem req_neq {M : Mem} {K : AV → Mem → Prop} {x y : ReqD} : aggBinK Tryz.prog 68 M [.c (.int .i64 x.t), .c (.int .i64 x.w), .c (.int .i64 x.a)] [.c (.int .i64 y.t), .c (.int .i64 y.w), .c (.int .i64 y.a)] K .neq = K (.c (.bool (!decide (x = y)))) M :=
 agg_neq eqi_request (by decide) (by kernel_rfl) (l := [x.t, x.w, x.a]) (m := [y.t, y.w, y.a]) rfl rfl (by cases x; cases y; simp)
theorem eqi_outcome : EqI Tryz.prog 3 70 3 :=
 EqI.of (D := 1) Tryz.underlying70 (by kernel_rfl) (.st (m := 2) (by decide) rfl ti66 rfl rfl eqi_stamp (.int (by decide) rfl Tryz.underlying49 .nil))
theorem out_neq {M : Mem} {K : AV → Mem → Prop} {x y : OutD} : aggBinK Tryz.prog 70 M [.c (.int .i64 x.t), .c (.int .i64 x.w), .c (.int .i64 x.c)] [.c (.int .i64 y.t), .c (.int .i64 y.w), .c (.int .i64 y.c)] K .neq = K (.c (.bool (!decide (x = y)))) M :=
 agg_neq eqi_outcome (by decide) (by kernel_rfl) (l := [x.t, x.w, x.c]) (m := [y.t, y.w, y.c]) rfl rfl (by cases x; cases y; simp)
theorem list_ext {α : Type} {d : α} {a b : List α} (hl : a.length = b.length) (h : ∀ k, k < a.length → a.getD k d = b.getD k d) : a = b := by
 refine List.ext_getElem hl fun k h1 h2 => ?_
 have := h k h1
 rwa [List.getD_eq_getElem?_getD, List.getD_eq_getElem?_getD, List.getElem?_eq_getElem h1, List.getElem?_eq_getElem h2] at this
theorem rqsame_call (a b : List ReqD) (ha : a.length ≤ 1000000000) : PCall Tryz.prog 27 [.l 3 (a.map ReqA), .l 3 (b.map ReqA)] (.c (.bool (decide (a = b)))) := by
 refine pcall_body tabOk Tryz.func27 rfl rfl (by rw [Tryz.ntmps27]; simp) ?_
 simp only [Tryz.ntmps27]
 simp only [↓wt, wz, reduceAdd, reduceMul, reduceEqDiff, reduceLeDiff, Nat.reduceLT, reduceLE, reduceLT, reduceEq, reduceNe]
 repeat' (first | ((first | refine r_casesD (fun hp hb => ?_) (fun hp hb => ?_) | refine r_casesN (fun hp hb => ?_) (fun hp hb => ?_) | refine r_casesM (fun hp hb => ?_) (fun hp hb => ?_) | refine r_casesB (fun hp hb => ?_) (fun hp hb => ?_) | refine r_gcasesD (fun hp hb => ?_) (fun hp hb => ?_) | refine r_gcasesN (fun hp hb => ?_) (fun hp hb => ?_) | refine r_gcasesM (fun hp hb => ?_) (fun hp hb => ?_) | refine r_gcasesB (fun hp hb => ?_) (fun hp hb => ?_)) <;> simp only [↓wt, wz, reduceAdd, reduceMul, reduceEqDiff, reduceLeDiff, Nat.reduceLT, reduceLE, reduceLT, reduceEq, reduceNe, Tryz.results27, hb]) | ((with_reducible refine And.intro ?_ ?_); omega) | fail)
 rotate_left
 · exact exp_bF (p := a = b) fun h => by subst h; first | omega | contradiction
 have hl : a.length = b.length := by omega
 refine loop_ruleC tabOk [0, 1] (fun k : Nat => [(5, .c (.int .i64 k))]) (fun k => k ≤ a.length ∧ ∀ j, j < k → reqAt a j = reqAt b j) (fun k => a.length - k) 0 ⟨by omega, fun j h => by omega⟩ ?_ ?_
 · simp only [↓wt, wz, wkf, reduceAdd, reduceMul, reduceEqDiff, reduceLeDiff, Nat.reduceLT, reduceLE, reduceLT, reduceEq, reduceNe, underL_Q, under_e]
   try trivial
 · rintro k ⟨hk, hG⟩
   simp only [↓wt, wz, reduceAdd, reduceMul, reduceEqDiff, reduceLeDiff, Nat.reduceLT, reduceLE, reduceLT, reduceEq, reduceNe]
   repeat' (first | ((first | refine r_casesD (fun hp hb => ?_) (fun hp hb => ?_) | refine r_casesN (fun hp hb => ?_) (fun hp hb => ?_) | refine r_casesM (fun hp hb => ?_) (fun hp hb => ?_) | refine r_casesB (fun hp hb => ?_) (fun hp hb => ?_) | refine r_gcasesD (fun hp hb => ?_) (fun hp hb => ?_) | refine r_gcasesN (fun hp hb => ?_) (fun hp hb => ?_) | refine r_gcasesM (fun hp hb => ?_) (fun hp hb => ?_) | refine r_gcasesB (fun hp hb => ?_) (fun hp hb => ?_)) <;> simp only [↓wt, wz, reduceAdd, reduceMul, reduceEqDiff, reduceLeDiff, Nat.reduceLT, reduceLE, reduceLT, reduceEq, reduceNe, hb]) | ((with_reducible refine And.intro ?_ ?_); omega) | fail)
   · have hkl : k < a.length := by omega
     have e3 := wi_succ (k := k) (by omega)
     refine draw_rule tabOk mixed [0, 0, 0, 0, 0, 0, 0, 0, 0] [[], [], [0, 1], [0, 1, 2], [], [], [4, 5], [4, 5, 6], [0, 1, 2, 3, 4, 5, 6, 7]] (by kernel_rfl) ?_
     simp only [↓wt, wz, reduceAdd, reduceMul, reduceEqDiff, reduceLeDiff, Nat.reduceLT, reduceLE, reduceLT, reduceEq, reduceNe, elem_Q, ReqA_eq, req_neq]
     repeat (refine And.intro (by omega) ?_)
     repeat' (first | ((first | refine r_casesD (fun hp hb => ?_) (fun hp hb => ?_) | refine r_casesN (fun hp hb => ?_) (fun hp hb => ?_) | refine r_casesM (fun hp hb => ?_) (fun hp hb => ?_) | refine r_casesB (fun hp hb => ?_) (fun hp hb => ?_) | refine r_gcasesD (fun hp hb => ?_) (fun hp hb => ?_) | refine r_gcasesN (fun hp hb => ?_) (fun hp hb => ?_) | refine r_gcasesM (fun hp hb => ?_) (fun hp hb => ?_) | refine r_gcasesB (fun hp hb => ?_) (fun hp hb => ?_)) <;> simp only [↓wt, wz, reduceAdd, reduceMul, reduceEqDiff, reduceLeDiff, Nat.reduceLT, reduceLE, reduceLT, reduceEq, reduceNe, e3, Tryz.results27, hb]) | ((with_reducible refine And.intro ?_ ?_); omega) | fail)
     · refine ⟨k + 1, ⟨by omega, fun j hj => ?_⟩, by omega, ?_⟩
       · rcases Nat.lt_or_ge j k with h | h
         · exact hG j h
         · have : j = k := by omega
           subst this
           assumption
       · simp only [↓wt, wz, wkf, reduceAdd, reduceMul, reduceEqDiff, reduceLeDiff, Nat.reduceLT, reduceLE, reduceLT, reduceEq, reduceNe, e3, underL_Q, under_e]
         try trivial
     · exact exp_bF (p := a = b) fun h => by subst h; first | omega | contradiction
   · simp only [↓wt, wz, reduceAdd, reduceMul, reduceEqDiff, reduceLeDiff, Nat.reduceLT, reduceLE, reduceLT, reduceEq, reduceNe, Tryz.results27]
     exact exp_bT (p := a = b) (list_ext (d := default) hl fun j hj => hG j (by omega))
set_option maxHeartbeats 4000000 in
theorem rasame_call (a b : AudD) (ha : LenA a) : PCall Tryz.prog 29 [AudV a, AudV b] (.c (.bool (decide (a = b)))) := by
 obtain ⟨w1, w2, w3⟩ := ha
 refine pcall_body tabOk Tryz.func29 rfl rfl (by rw [Tryz.ntmps29]; simp) ?_
 simp only [Tryz.ntmps29, AudV]
 simp only [↓wt, wz, reduceAdd, reduceMul, reduceEqDiff, reduceLeDiff, Nat.reduceLT, reduceLE, reduceLT, reduceEq, reduceNe, look_neq]
 cases e1 : decide (a.y = b.y ∧ a.p = b.p)
 · simp only [↓wt, wz, reduceAdd, reduceMul, reduceEqDiff, reduceLeDiff, Nat.reduceLT, reduceLE, reduceLT, reduceEq, reduceNe, e1, Tryz.results29]
   exact exp_bF (p := a = b) fun h => by subst h; simp at e1
 simp only [↓wt, wz, reduceAdd, reduceMul, reduceEqDiff, reduceLeDiff, Nat.reduceLT, reduceLE, reduceLT, reduceEq, reduceNe, e1]
 have e1' := of_decide_eq_true e1
 cases e2 : (a.mv == b.mv)
 · simp only [↓wt, wz, reduceAdd, reduceMul, reduceEqDiff, reduceLeDiff, Nat.reduceLT, reduceLE, reduceLT, reduceEq, reduceNe, e2, Tryz.results29]
   exact exp_bF (p := a = b) fun h => by subst h; simp at e2
 simp only [↓wt, wz, reduceAdd, reduceMul, reduceEqDiff, reduceLeDiff, Nat.reduceLT, reduceLE, reduceLT, reduceEq, reduceNe, e2]
 have e2' : a.mv = b.mv := by simpa using e2
 repeat' (first | ((first | refine r_casesD (fun hp hb => ?_) (fun hp hb => ?_) | refine r_casesN (fun hp hb => ?_) (fun hp hb => ?_) | refine r_casesM (fun hp hb => ?_) (fun hp hb => ?_) | refine r_casesB (fun hp hb => ?_) (fun hp hb => ?_) | refine r_gcasesD (fun hp hb => ?_) (fun hp hb => ?_) | refine r_gcasesN (fun hp hb => ?_) (fun hp hb => ?_) | refine r_gcasesM (fun hp hb => ?_) (fun hp hb => ?_) | refine r_gcasesB (fun hp hb => ?_) (fun hp hb => ?_)) <;> simp only [↓wt, wz, reduceAdd, reduceMul, reduceEqDiff, reduceLeDiff, Nat.reduceLT, reduceLE, reduceLT, reduceEq, reduceNe, Tryz.results29, hb]) | ((with_reducible refine And.intro ?_ ?_); omega) | fail)
 all_goals first | exact exp_bF (p := a = b) (fun h => by subst h; first | omega | contradiction) | skip
 refine loop_ruleC tabOk [2, 3] (fun k : Nat => [(5, .c (.int .i64 k))]) (fun k => k ≤ a.told.length ∧ ∀ j, j < k → a.told.getD j false = b.told.getD j false) (fun k => a.told.length - k) 0 ⟨by omega, fun j h => by omega⟩ ?_ ?_
 · simp only [↓wt, wz, wkf, reduceAdd, reduceMul, reduceEqDiff, reduceLeDiff, Nat.reduceLT, reduceLE, reduceLT, reduceEq, reduceNe, underL_O, underL_I]
   try trivial
 · rintro k ⟨hk, hG0⟩
   simp only [↓wt, wz, reduceAdd, reduceMul, reduceEqDiff, reduceLeDiff, Nat.reduceLT, reduceLE, reduceLT, reduceEq, reduceNe]
   repeat' (first | ((first | refine r_casesD (fun hp hb => ?_) (fun hp hb => ?_) | refine r_casesN (fun hp hb => ?_) (fun hp hb => ?_) | refine r_casesM (fun hp hb => ?_) (fun hp hb => ?_) | refine r_casesB (fun hp hb => ?_) (fun hp hb => ?_) | refine r_gcasesD (fun hp hb => ?_) (fun hp hb => ?_) | refine r_gcasesN (fun hp hb => ?_) (fun hp hb => ?_) | refine r_gcasesM (fun hp hb => ?_) (fun hp hb => ?_) | refine r_gcasesB (fun hp hb => ?_) (fun hp hb => ?_)) <;> simp only [↓wt, wz, reduceAdd, reduceMul, reduceEqDiff, reduceLeDiff, Nat.reduceLT, reduceLE, reduceLT, reduceEq, reduceNe, hb]) | ((with_reducible refine And.intro ?_ ?_); omega) | fail)
   rotate_left
   · have hT0 : a.told = b.told := list_ext (d := false) (by omega) fun j hj => hG0 j (by omega)
     refine loop_ruleC tabOk [2, 3] (fun k : Nat => [(6, .c (.int .i64 k))]) (fun k => k ≤ a.use.length ∧ ∀ j, j < k → a.use.getD j 0 = b.use.getD j 0) (fun k => a.use.length - k) 0 ⟨by omega, fun j h => by omega⟩ ?_ ?_
     · simp only [↓wt, wz, wkf, reduceAdd, reduceMul, reduceEqDiff, reduceLeDiff, Nat.reduceLT, reduceLE, reduceLT, reduceEq, reduceNe, underL_O, underL_I]
       try trivial
     · rintro k ⟨hk, hG1⟩
       simp only [↓wt, wz, reduceAdd, reduceMul, reduceEqDiff, reduceLeDiff, Nat.reduceLT, reduceLE, reduceLT, reduceEq, reduceNe]
       repeat' (first | ((first | refine r_casesD (fun hp hb => ?_) (fun hp hb => ?_) | refine r_casesN (fun hp hb => ?_) (fun hp hb => ?_) | refine r_casesM (fun hp hb => ?_) (fun hp hb => ?_) | refine r_casesB (fun hp hb => ?_) (fun hp hb => ?_) | refine r_gcasesD (fun hp hb => ?_) (fun hp hb => ?_) | refine r_gcasesN (fun hp hb => ?_) (fun hp hb => ?_) | refine r_gcasesM (fun hp hb => ?_) (fun hp hb => ?_) | refine r_gcasesB (fun hp hb => ?_) (fun hp hb => ?_)) <;> simp only [↓wt, wz, reduceAdd, reduceMul, reduceEqDiff, reduceLeDiff, Nat.reduceLT, reduceLE, reduceLT, reduceEq, reduceNe, hb]) | ((with_reducible refine And.intro ?_ ?_); omega) | fail)
       rotate_left
       · have hT1 : a.use = b.use := list_ext (d := 0) (by omega) fun j hj => hG1 j (by omega)
         refine loop_ruleC tabOk [2, 3] (fun k : Nat => [(7, .c (.int .i64 k))]) (fun k => k ≤ a.inc.length ∧ ∀ j, j < k → a.inc.getD j 0 = b.inc.getD j 0) (fun k => a.inc.length - k) 0 ⟨by omega, fun j h => by omega⟩ ?_ ?_
         · simp only [↓wt, wz, wkf, reduceAdd, reduceMul, reduceEqDiff, reduceLeDiff, Nat.reduceLT, reduceLE, reduceLT, reduceEq, reduceNe, underL_O, underL_I]
           try trivial
         · rintro k ⟨hk, hG2⟩
           simp only [↓wt, wz, reduceAdd, reduceMul, reduceEqDiff, reduceLeDiff, Nat.reduceLT, reduceLE, reduceLT, reduceEq, reduceNe]
           repeat' (first | ((first | refine r_casesD (fun hp hb => ?_) (fun hp hb => ?_) | refine r_casesN (fun hp hb => ?_) (fun hp hb => ?_) | refine r_casesM (fun hp hb => ?_) (fun hp hb => ?_) | refine r_casesB (fun hp hb => ?_) (fun hp hb => ?_) | refine r_gcasesD (fun hp hb => ?_) (fun hp hb => ?_) | refine r_gcasesN (fun hp hb => ?_) (fun hp hb => ?_) | refine r_gcasesM (fun hp hb => ?_) (fun hp hb => ?_) | refine r_gcasesB (fun hp hb => ?_) (fun hp hb => ?_)) <;> simp only [↓wt, wz, reduceAdd, reduceMul, reduceEqDiff, reduceLeDiff, Nat.reduceLT, reduceLE, reduceLT, reduceEq, reduceNe, hb]) | ((with_reducible refine And.intro ?_ ?_); omega) | fail)
           rotate_left
           · have hT2 : a.inc = b.inc := list_ext (d := 0) (by omega) fun j hj => hG2 j (by omega)
             simp only [↓wt, wz, reduceAdd, reduceMul, reduceEqDiff, reduceLeDiff, Nat.reduceLT, reduceLE, reduceLT, reduceEq, reduceNe, Tryz.results29]
             refine exp_bT (p := a = b) ?_
             cases a; cases b
             simp_all
           · have hkl : k < a.inc.length := by omega
             have e3 := wi_succ (k := k) (by omega)
             refine draw_rule tabOk mixed [0, 2, 0, 2, 2, 0, 2, 0, 2, 2, 0] [[], [0], [], [0, 1, 2], [0, 1, 2, 3], [], [5], [], [5, 6, 7], [5, 6, 7, 8], [0, 1, 2, 3, 4, 5, 6, 7, 8, 9]] (by kernel_rfl) ?_
             simp only [↓wt, wz, reduceAdd, reduceMul, reduceEqDiff, reduceLeDiff, Nat.reduceLT, reduceLE, reduceLT, reduceEq, reduceNe, elem_I]
             repeat (refine And.intro (by omega) ?_)
             repeat' (first | ((first | refine r_casesD (fun hp hb => ?_) (fun hp hb => ?_) | refine r_casesN (fun hp hb => ?_) (fun hp hb => ?_) | refine r_casesM (fun hp hb => ?_) (fun hp hb => ?_) | refine r_casesB (fun hp hb => ?_) (fun hp hb => ?_) | refine r_gcasesD (fun hp hb => ?_) (fun hp hb => ?_) | refine r_gcasesN (fun hp hb => ?_) (fun hp hb => ?_) | refine r_gcasesM (fun hp hb => ?_) (fun hp hb => ?_) | refine r_gcasesB (fun hp hb => ?_) (fun hp hb => ?_)) <;> simp only [↓wt, wz, reduceAdd, reduceMul, reduceEqDiff, reduceLeDiff, Nat.reduceLT, reduceLE, reduceLT, reduceEq, reduceNe, e3, Tryz.results29, hb]) | ((with_reducible refine And.intro ?_ ?_); omega) | fail)
             · refine ⟨k + 1, ⟨by omega, fun j hj => ?_⟩, by omega, ?_⟩
               · rcases Nat.lt_or_ge j k with h | h
                 · exact hG2 j h
                 · have : j = k := by omega
                   subst this
                   assumption
               · simp only [↓wt, wz, wkf, reduceAdd, reduceMul, reduceEqDiff, reduceLeDiff, Nat.reduceLT, reduceLE, reduceLT, reduceEq, reduceNe, e3, underL_O, underL_I]
             · exact exp_bF (p := a = b) fun h => by subst h; first | omega | contradiction
       · have hkl : k < a.use.length := by omega
         have e3 := wi_succ (k := k) (by omega)
         refine draw_rule tabOk mixed [0, 2, 0, 2, 2, 0, 2, 0, 2, 2, 0] [[], [0], [], [0, 1, 2], [0, 1, 2, 3], [], [5], [], [5, 6, 7], [5, 6, 7, 8], [0, 1, 2, 3, 4, 5, 6, 7, 8, 9]] (by kernel_rfl) ?_
         simp only [↓wt, wz, reduceAdd, reduceMul, reduceEqDiff, reduceLeDiff, Nat.reduceLT, reduceLE, reduceLT, reduceEq, reduceNe, elem_I]
         repeat (refine And.intro (by omega) ?_)
         repeat' (first | ((first | refine r_casesD (fun hp hb => ?_) (fun hp hb => ?_) | refine r_casesN (fun hp hb => ?_) (fun hp hb => ?_) | refine r_casesM (fun hp hb => ?_) (fun hp hb => ?_) | refine r_casesB (fun hp hb => ?_) (fun hp hb => ?_) | refine r_gcasesD (fun hp hb => ?_) (fun hp hb => ?_) | refine r_gcasesN (fun hp hb => ?_) (fun hp hb => ?_) | refine r_gcasesM (fun hp hb => ?_) (fun hp hb => ?_) | refine r_gcasesB (fun hp hb => ?_) (fun hp hb => ?_)) <;> simp only [↓wt, wz, reduceAdd, reduceMul, reduceEqDiff, reduceLeDiff, Nat.reduceLT, reduceLE, reduceLT, reduceEq, reduceNe, e3, Tryz.results29, hb]) | ((with_reducible refine And.intro ?_ ?_); omega) | fail)
         · refine ⟨k + 1, ⟨by omega, fun j hj => ?_⟩, by omega, ?_⟩
           · rcases Nat.lt_or_ge j k with h | h
             · exact hG1 j h
             · have : j = k := by omega
               subst this
               assumption
           · simp only [↓wt, wz, wkf, reduceAdd, reduceMul, reduceEqDiff, reduceLeDiff, Nat.reduceLT, reduceLE, reduceLT, reduceEq, reduceNe, e3, underL_O, underL_I]
         · exact exp_bF (p := a = b) fun h => by subst h; first | omega | contradiction
   · have hkl : k < a.told.length := by omega
     have e3 := wi_succ (k := k) (by omega)
     refine draw_rule tabOk mixed [0, 2, 0, 2, 2, 0, 2, 0, 2, 2, 0] [[], [0], [], [0, 1, 2], [0, 1, 2, 3], [], [5], [], [5, 6, 7], [5, 6, 7, 8], [0, 1, 2, 3, 4, 5, 6, 7, 8, 9]] (by kernel_rfl) ?_
     simp only [↓wt, wz, reduceAdd, reduceMul, reduceEqDiff, reduceLeDiff, Nat.reduceLT, reduceLE, reduceLT, reduceEq, reduceNe, elem_O]
     repeat (refine And.intro (by omega) ?_)
     cases e5 : (a.told.getD k false == b.told.getD k false)
     · simp only [↓wt, wz, reduceAdd, reduceMul, reduceEqDiff, reduceLeDiff, Nat.reduceLT, reduceLE, reduceLT, reduceEq, reduceNe, e5, Tryz.results29]
       exact exp_bF (p := a = b) fun h => by subst h; simp at e5
     simp only [↓wt, wz, reduceAdd, reduceMul, reduceEqDiff, reduceLeDiff, Nat.reduceLT, reduceLE, reduceLT, reduceEq, reduceNe, e3, e5]
     refine ⟨k + 1, ⟨by omega, fun j hj => ?_⟩, by omega, ?_⟩
     · rcases Nat.lt_or_ge j k with h | h
       · exact hG0 j h
       · have : j = k := by omega
         subst this
         simpa using e5
     · simp only [↓wt, wz, wkf, reduceAdd, reduceMul, reduceEqDiff, reduceLeDiff, Nat.reduceLT, reduceLE, reduceLT, reduceEq, reduceNe, e3, underL_O, underL_I]
end Go.Ab
namespace Go.Ab
open Go Go.Proofs Go.RowKit
set_option maxHeartbeats 4000000 in
theorem rbksame_call (a b : BookD) (ha : BLens a) : PCall Tryz.prog 9 [BookV a, BookV b] (.c (.bool (decide (a = b)))) := by
 obtain ⟨w1, w2, w3, w4, w5⟩ := ha
 refine pcall_body tabOk Tryz.func9 rfl rfl (by rw [Tryz.ntmps9]; simp) ?_
 simp only [Tryz.ntmps9, BookV]
 simp only [↓wt, wz, reduceAdd, reduceMul, reduceEqDiff, reduceLeDiff, Nat.reduceLT, reduceLE, reduceLT, reduceEq, reduceNe]
 cases e1 : decide (a.ck = b.ck)
 · simp only [↓wt, wz, reduceAdd, reduceMul, reduceEqDiff, reduceLeDiff, Nat.reduceLT, reduceLE, reduceLT, reduceEq, reduceNe, e1, Tryz.results9]
   exact exp_bF (p := a = b) fun h => of_decide_eq_false e1 (by rw [h])
 simp only [↓wt, wz, reduceAdd, reduceMul, reduceEqDiff, reduceLeDiff, Nat.reduceLT, reduceLE, reduceLT, reduceEq, reduceNe, e1]
 refine icall_drop [] (rsameB_call a.r b.r w1) ⟨arg_l (pureR _), arg_l (pureR _), trivial⟩ (.c _) ?_
 cases e2 : decide (a.r = b.r)
 · simp only [↓wt, wz, reduceAdd, reduceMul, reduceEqDiff, reduceLeDiff, Nat.reduceLT, reduceLE, reduceLT, reduceEq, reduceNe, e2, Tryz.results9]
   exact exp_bF (p := a = b) fun h => of_decide_eq_false e2 (by rw [h])
 simp only [↓wt, wz, reduceAdd, reduceMul, reduceEqDiff, reduceLeDiff, Nat.reduceLT, reduceLE, reduceLT, reduceEq, reduceNe, e2]
 refine icall_drop [] (rqsame_call a.l b.l w2) ⟨arg_l (pureQ _), arg_l (pureQ _), trivial⟩ (.c _) ?_
 cases e3 : decide (a.l = b.l)
 · simp only [↓wt, wz, reduceAdd, reduceMul, reduceEqDiff, reduceLeDiff, Nat.reduceLT, reduceLE, reduceLT, reduceEq, reduceNe, e3, Tryz.results9]
   exact exp_bF (p := a = b) fun h => of_decide_eq_false e3 (by rw [h])
 simp only [↓wt, wz, reduceAdd, reduceMul, reduceEqDiff, reduceLeDiff, Nat.reduceLT, reduceLE, reduceLT, reduceEq, reduceNe, e3]
 repeat' (first | ((first | refine r_casesD (fun hp hb => ?_) (fun hp hb => ?_) | refine r_casesN (fun hp hb => ?_) (fun hp hb => ?_) | refine r_casesM (fun hp hb => ?_) (fun hp hb => ?_) | refine r_casesB (fun hp hb => ?_) (fun hp hb => ?_) | refine r_gcasesD (fun hp hb => ?_) (fun hp hb => ?_) | refine r_gcasesN (fun hp hb => ?_) (fun hp hb => ?_) | refine r_gcasesM (fun hp hb => ?_) (fun hp hb => ?_) | refine r_gcasesB (fun hp hb => ?_) (fun hp hb => ?_)) <;> simp only [↓wt, wz, reduceAdd, reduceMul, reduceEqDiff, reduceLeDiff, Nat.reduceLT, reduceLE, reduceLT, reduceEq, reduceNe, Tryz.results9, hb]) | ((with_reducible refine And.intro ?_ ?_); omega) | fail)
 all_goals first | exact exp_bF (p := a = b) (fun h => by subst h; first | omega | contradiction) | skip
 have e1' := of_decide_eq_true e1
 have e2' := of_decide_eq_true e2
 have e3' := of_decide_eq_true e3
 refine loop_ruleC tabOk [2, 3] (fun k : Nat => [(5, .c (.int .i64 k))]) (fun k => k ≤ a.o.length ∧ ∀ j, j < k → outAt a.o j = outAt b.o j) (fun k => a.o.length - k) 0 ⟨by omega, fun j h => by omega⟩ ?_ ?_
 · simp only [↓wt, wz, wkf, reduceAdd, reduceMul, reduceEqDiff, reduceLeDiff, Nat.reduceLT, reduceLE, reduceLT, reduceEq, reduceNe, underL_R, underL_Q, underL_U, underL_N, underL_O, underL_I]
   try trivial
 · rintro k ⟨hk, hG⟩
   simp only [↓wt, wz, reduceAdd, reduceMul, reduceEqDiff, reduceLeDiff, Nat.reduceLT, reduceLE, reduceLT, reduceEq, reduceNe]
   repeat' (first | ((first | refine r_casesD (fun hp hb => ?_) (fun hp hb => ?_) | refine r_casesN (fun hp hb => ?_) (fun hp hb => ?_) | refine r_casesM (fun hp hb => ?_) (fun hp hb => ?_) | refine r_casesB (fun hp hb => ?_) (fun hp hb => ?_) | refine r_gcasesD (fun hp hb => ?_) (fun hp hb => ?_) | refine r_gcasesN (fun hp hb => ?_) (fun hp hb => ?_) | refine r_gcasesM (fun hp hb => ?_) (fun hp hb => ?_) | refine r_gcasesB (fun hp hb => ?_) (fun hp hb => ?_)) <;> simp only [↓wt, wz, reduceAdd, reduceMul, reduceEqDiff, reduceLeDiff, Nat.reduceLT, reduceLE, reduceLT, reduceEq, reduceNe, hb]) | ((with_reducible refine And.intro ?_ ?_); omega) | fail)
   rotate_left
   · have hT : a.o = b.o := list_ext (d := default) (by omega) fun j hj => hG j (by omega)
     refine icall_drop [] (csame_call a.n b.n w4) ⟨arg_notes, arg_notes, trivial⟩ (.c _) ?_
     cases e5 : decide (a.n = b.n)
     · simp only [↓wt, wz, reduceAdd, reduceMul, reduceEqDiff, reduceLeDiff, Nat.reduceLT, reduceLE, reduceLT, reduceEq, reduceNe, e5, Tryz.results9]
       exact exp_bF (p := a = b) fun h => of_decide_eq_false e5 (by rw [h])
     simp only [↓wt, wz, reduceAdd, reduceMul, reduceEqDiff, reduceLeDiff, Nat.reduceLT, reduceLE, reduceLT, reduceEq, reduceNe, e5]
     refine icall_drop [] (rasame_call a.a b.a w5) ⟨arg_aud, arg_aud, trivial⟩ (.c _) ?_
     simp only [↓wt, wz, reduceAdd, reduceMul, reduceEqDiff, reduceLeDiff, Nat.reduceLT, reduceLE, reduceLT, reduceEq, reduceNe, Tryz.results9]
     refine exp_bE ⟨fun h => ?_, fun h => by rw [h]⟩
     have e5' := of_decide_eq_true e5
     cases a; cases b
     simp_all
   · have hkl : k < a.o.length := by omega
     have e4 := wi_succ (k := k) (by omega)
     refine draw_rule tabOk mixed [0, 2, 0, 2, 2, 0, 2, 0, 2, 2, 0] [[], [0], [], [0, 1, 2], [0, 1, 2, 3], [], [5], [], [5, 6, 7], [5, 6, 7, 8], [0, 1, 2, 3, 4, 5, 6, 7, 8, 9]] (by kernel_rfl) ?_
     simp only [↓wt, wz, reduceAdd, reduceMul, reduceEqDiff, reduceLeDiff, Nat.reduceLT, reduceLE, reduceLT, reduceEq, reduceNe, elem_U, OutA_eq, out_neq]
     repeat (refine And.intro (by omega) ?_)
     repeat' (first | ((first | refine r_casesD (fun hp hb => ?_) (fun hp hb => ?_) | refine r_casesN (fun hp hb => ?_) (fun hp hb => ?_) | refine r_casesM (fun hp hb => ?_) (fun hp hb => ?_) | refine r_casesB (fun hp hb => ?_) (fun hp hb => ?_) | refine r_gcasesD (fun hp hb => ?_) (fun hp hb => ?_) | refine r_gcasesN (fun hp hb => ?_) (fun hp hb => ?_) | refine r_gcasesM (fun hp hb => ?_) (fun hp hb => ?_) | refine r_gcasesB (fun hp hb => ?_) (fun hp hb => ?_)) <;> simp only [↓wt, wz, reduceAdd, reduceMul, reduceEqDiff, reduceLeDiff, Nat.reduceLT, reduceLE, reduceLT, reduceEq, reduceNe, e4, Tryz.results9, hb]) | ((with_reducible refine And.intro ?_ ?_); omega) | fail)
     · refine ⟨k + 1, ⟨by omega, fun j hj => ?_⟩, by omega, ?_⟩
       · rcases Nat.lt_or_ge j k with h | h
         · exact hG j h
         · have : j = k := by omega
           subst this
           assumption
       · simp only [↓wt, wz, wkf, reduceAdd, reduceMul, reduceEqDiff, reduceLeDiff, Nat.reduceLT, reduceLE, reduceLT, reduceEq, reduceNe, e4, underL_R, underL_Q, underL_U, underL_N, underL_O, underL_I]
         try trivial
     · exact exp_bF (p := a = b) fun h => by subst h; first | omega | contradiction
end Go.Ab
namespace Go.Ab
open Go Go.Proofs Go.RowKit
theorem new_may {c : Conf} {who : Int} (h : ThereC c who) : MayK c who (newK c who).1 := by
 have hm := h.1
 have hm' := hm
 unfold MayC at hm'
 have hn : (⟨0, newB c, [], [], 0, List.replicate c.n.toNat note0, aud00⟩ : BookD) = (newK c who).1 := by rw [newK, if_pos h]
 rw [← hn]
 refine ⟨h, ⟨show (0 : Int) ≤ 0 by decide, show (0 : Int) ≤ 1125899906842624 by decide⟩, newB_right hm, ⟨h, by show (0 : Int) ≤ c.q; omega, fun i hi => by cases hi⟩, by show (0 : Int) ≤ c.q + 1; omega, rfl, rfl, ⟨show (0 : Int) ≤ 0 by decide, by show (0 : Int) ≤ c.r; omega⟩, ⟨h, by show ((List.replicate c.n.toNat note0).length : Int) = c.n; rw [List.length_replicate]; omega, fun i hi => ?_⟩, ⟨h, .inl none00⟩, .inr ⟨rfl, rfl⟩⟩
 have hi : i < c.n.toNat := by simpa using hi
 have e : noteAt (List.replicate c.n.toNat note0) i = note0 := by rw [noteAt, List.getD_eq_getElem?_getD, List.getElem?_replicate, if_pos hi]; rfl
 show NoteOk c i (noteAt (List.replicate c.n.toNat note0) i) ∧ _
 rw [e]
 exact ⟨note0_ok hm _, fun _ => rfl⟩
def c17 : Conf := ⟨1, 1, 0, 1, 0, 0⟩
def l17 : List RowD := [⟨0, 0, [0]⟩]
def k17 : BookD := ⟨0, l17, [], [], 0, [note0], aud00⟩
theorem new17 : newB c17 = l17 := by decide +kernel
theorem newK17 : newK c17 0 = (k17, 0) := by
 rw [newK, if_pos (by decide), new17]; rfl
theorem may17 : MayK c17 0 k17 := by
 have := new_may (c := c17) (who := 0) (by decide)
 rw [newK17] at this; exact this
theorem small17 : SmallK k17 := by
 refine ⟨by decide, by decide, by decide, by decide, by decide, by decide, by decide, by decide⟩
theorem take_put {c : Conf} {who : Int} {k : BookD} (h : MayK c who k) : takeBk c who (encBk k) = (k, true) := (takeBk_is c who (encBk k)).uniq (.inl ⟨rfl, h, rfl⟩)
theorem take_more {c : Conf} {who : Int} {k : BookD} (h : MayK c who k) {r : List UInt8} (hr : r ≠ []) : takeBk c who (encBk k ++ r) = (k00, false) := by
 refine (takeBk_is c who _).uniq (.inr ⟨rfl, fun k' hk' he => ?_⟩)
 have e1 := book_put (may_wf h) r
 have e2 := book_put (may_wf hk') []
 rw [List.append_nil, he, e1] at e2
 simp only [Option.some.injEq, Prod.mk.injEq] at e2
 exact hr e2.2
theorem nb_map {α : Type} (sz : Nat) (f : α → AV) (l : List α) (hh : ∀ x, HeadN (f x)) (hc : ∀ x, ∀ c ∈ (f x).cells, NB c) : NB (.l sz (l.map f)) := .l _ _ (fun i hi => by
 simp only [List.getElem_map]
 exact hh _) fun i hi j hj => by
 simp only [List.getElem_map] at hj ⊢
 exact hc _ _ (List.getElem_mem hj)
theorem nb_I (l : List Int) : NB (.l 1 (l.map encI)) := nb_map _ _ _ (fun x => ⟨_, rfl, fun v h => by cases h⟩) fun x c hc => by
 simp only [encI, AV.cells, List.mem_cons, List.not_mem_nil, or_false] at hc
 rw [hc]; exact .c _
theorem nb_O (l : List Bool) : NB (.l 1 (l.map encO)) := nb_map _ _ _ (fun x => ⟨_, rfl, fun v h => by cases h⟩) fun x c hc => by
 simp only [encO, AV.cells, List.mem_cons, List.not_mem_nil, or_false] at hc
 rw [hc]; exact .c _
theorem nb_R (l : List RowD) : NB (.l 3 (l.map RowV)) := nb_map _ _ _ (fun x => ⟨_, rfl, fun v h => by cases h⟩) fun x c hc => by
 have hc : c = .c (.int .i64 x.i) ∨ c = .c (.int .i64 x.u) ∨ c = .l 1 (x.o.map encI) := by simpa [RowV, RowA, AV.cells] using hc
 rcases hc with rfl | rfl | rfl
 · exact .c _
 · exact .c _
 · exact nb_I _
theorem nb_Q (l : List ReqD) : NB (.l 3 (l.map ReqA)) := nb_map _ _ _ (fun x => ⟨_, rfl, fun v h => by cases h⟩) fun x c hc => by
 have hc : c = .c (.int .i64 x.t) ∨ c = .c (.int .i64 x.w) ∨ c = .c (.int .i64 x.a) := by simpa [ReqA, AV.cells] using hc
 rcases hc with rfl | rfl | rfl <;> exact .c _
theorem nb_U (l : List OutD) : NB (.l 3 (l.map OutA)) := nb_map _ _ _ (fun x => ⟨_, rfl, fun v h => by cases h⟩) fun x c hc => by
 have hc : c = .c (.int .i64 x.t) ∨ c = .c (.int .i64 x.w) ∨ c = .c (.int .i64 x.c) := by simpa [OutA, AV.cells] using hc
 rcases hc with rfl | rfl | rfl <;> exact .c _
theorem nb_N (l : List NoteD) : NB (.l 7 (l.map NoteV)) := nb_map _ _ _ (fun x => ⟨_, rfl, fun v h => by cases h⟩) fun x c hc => by
 simp only [NoteV, AV.cells, List.mem_cons, List.not_mem_nil, or_false] at hc
 rcases hc with rfl | rfl | rfl | rfl | rfl | rfl | rfl <;> exact .c _
theorem frzE_B {M : Mem} {id : Nat} {b : List UInt8} : (b.map encB).map (frzE M id) = b.map encB := by
 rw [List.map_map]
 exact List.map_congr_left fun x _ => rfl
theorem fok_B {M : Mem} {id : Nat} {b : List UInt8} : (∀ x ∈ b.map encB, ∀ c ∈ x.cells, FOk M id c) = True := by
 refine eq_true fun x hx c hc => ?_
 obtain ⟨y, _, rfl⟩ := List.mem_map.1 hx
 rw [List.mem_singleton.1 hc]
 exact trivial
theorem okR_nb {k : BookD} {v : Value} : OkR NB (.t [BookV k, .c v]) := ⟨⟨.c _, nb_R _, nb_Q _, nb_U _, .c _, nb_N _, .c _, .c _, nb_O _, nb_I _, nb_I _, .c _, trivial⟩, .c _, trivial⟩
theorem bytes_B (b : List UInt8) : ∀ i (hi : i < (b.map encB).length), ∃ v, (b.map encB)[i] = .c (.int .u8 v) := fun i hi => by
 simp only [List.getElem_map]
 exact ⟨_, rfl⟩
set_option maxHeartbeats 8000000 in
theorem bklaw_call : PCall Tryz.prog 6 [] (.c (.bool true)) := by
 obtain ⟨b, hb⟩ : ∃ b, b = encBk k17 := ⟨_, rfl⟩
 have hl : b.length ≤ 1000 := by
  have := st5_len k17 small17
  have h := encN_len (numsK k17)
  rw [show encN (numsK k17) = encBk k17 from rfl, ← hb] at h
  exact Nat.le_trans h (by decide)
 have hl2 : 0 < b.length := by
  have := List.length_pos_iff.2 (putL_ne (uNat k17.ck))
  rw [hb, tl0, encN]
  simp only [List.length_append]; omega
 have m0 := bknew_call c17 0
 rw [newK17] at m0
 have m1 := bkput_own k17 small17 none00
 rw [← hb] at m1
 have m2 := bktake_call c17 0 b (by omega)
 rw [show takeBk c17 0 b = (k17, true) by rw [hb]; exact take_put may17] at m2
 have m3 := bktake_call c17 0 (b ++ [0]) (by rw [List.length_append]; simp; omega)
 rw [show takeBk c17 0 (b ++ [0]) = (k00, false) by rw [hb]; exact take_more may17 (by simp)] at m3
 have e0 : (b ++ [0]).map encB = b.map encB ++ [.c (.int .u8 0)] := by simp [encB]
 have hp0 : PureL (b.map encB ++ [.c (.int .u8 0)]) := by
  have := pureB (b ++ [0])
  rw [List.map_append] at this
  exact this
 rw [e0] at m3
 have hw0 : (b.map encB ++ [AV.c (.int .u8 0)]).take b.length = b.map encB := by
  rw [List.take_append_of_le_length (by simp), List.take_of_length_le (by simp)]
 have m4 := bkmay_call c17 0 k17 (wf_lens (may_wf may17))
 rw [decide_eq_true may17] at m4
 have m5 := bkbound_call c17
 rw [show boundK c17 = 624 by decide +kernel] at m5
 have m6 := rbksame_call k17 k17 (wf_lens (may_wf may17))
 rw [decide_eq_true rfl] at m6
 refine pcall_body tabOk Tryz.func6 rfl rfl (by rw [Tryz.ntmps6]; simp) ?_
 simp only [Tryz.ntmps6]
 simp only [↓wt, wz, reduceAdd, reduceMul, reduceEqDiff, reduceLeDiff, Nat.reduceLT, reduceLE, reduceLT, reduceEq, reduceNe]
 refine icall_drop [] m0 ⟨arg_conf' (c := c17), arg_c, trivial⟩ ⟨⟨.c _, .l _ _ (pureR _), .l _ _ (pureQ _), .l _ _ (pureU _), .c _, .l _ _ (pureN _), .c _, .c _, .l _ _ (pureO _), .l _ _ (pureI _), .l _ _ (pureI _), .c _, trivial⟩, .c _, trivial⟩ ?_
 simp only [↓wt, wz, reduceAdd, reduceMul, reduceEqDiff, reduceLeDiff, Nat.reduceLT, reduceLE, reduceLT, reduceEq, reduceNe, BookV, Cell]
 refine icall_drop [] m1 ⟨arg_book, trivial⟩ (pureB _) ?_
 simp only [↓wt, wz, reduceAdd, reduceMul, reduceEqDiff, reduceLeDiff, Nat.reduceLT, reduceLE, reduceLT, reduceEq, reduceNe]
 refine icall_keepB [2] m2 ⟨arg_conf' (c := c17), arg_c, arg_own (by simp) rfl (by simp) (pureB _), trivial⟩ (fun id hid => by
  rw [List.mem_singleton.1 hid]
  exact ⟨_, rfl, bytes_B b⟩) okR_nb ?_
 simp only [↓wt, wz, reduceAdd, reduceMul, reduceEqDiff, reduceLeDiff, Nat.reduceLT, reduceLE, reduceLT, reduceEq, reduceNe, BookV, Cell]
 refine freeze_rule 0 [1, 2, 3, 4, 5, 6] (by simp only [↓wt, wz, reduceAdd, reduceMul, reduceEqDiff, reduceLeDiff, Nat.reduceLT, reduceLE, reduceLT, reduceEq, reduceNe, underL_R, underL_Q, underL_U, underL_N, underL_O, ↓fok_B, frzE_B]; (try (repeat' (first | (exact fun _ => by simp only [pureL_eq, underL_cons, underL_nil, AV.cells, under_l, under_c, under_g, under_e, under_f, underL_B, underL_I, underL_Bs, under_Bs, List.mem_cons, List.not_mem_nil, or_false, forall_eq_or_imp, forall_eq, and_self, and_true, true_and, underL_R, underL_Q, underL_U, underL_N, underL_O, ↓fok_B, frzE_B]) | ((with_reducible refine And.intro ?_ ?_)) | (intro _) | omega | (simp only [pureL_eq, underL_cons, underL_nil, AV.cells, under_l, under_c, under_g, under_e, under_f, underL_B, underL_I, underL_Bs, under_Bs, List.mem_cons, List.not_mem_nil, or_false, forall_eq_or_imp, forall_eq, and_self, and_true, true_and, underL_R, underL_Q, underL_U, underL_N, underL_O, ↓fok_B, frzE_B])))); done) (by simp only [↓wt, wz, reduceAdd, reduceMul, reduceEqDiff, reduceLeDiff, Nat.reduceLT, reduceLE, reduceLT, reduceEq, reduceNe, underL_R, underL_Q, underL_U, underL_N, underL_O, ↓fok_B, frzE_B]; (try (repeat' (first | (exact fun _ => by simp only [pureL_eq, underL_cons, underL_nil, AV.cells, under_l, under_c, under_g, under_e, under_f, underL_B, underL_I, underL_Bs, under_Bs, List.mem_cons, List.not_mem_nil, or_false, forall_eq_or_imp, forall_eq, and_self, and_true, true_and, underL_R, underL_Q, underL_U, underL_N, underL_O, ↓fok_B, frzE_B]) | ((with_reducible refine And.intro ?_ ?_)) | (intro _) | omega | (simp only [pureL_eq, underL_cons, underL_nil, AV.cells, under_l, under_c, under_g, under_e, under_f, underL_B, underL_I, underL_Bs, under_Bs, List.mem_cons, List.not_mem_nil, or_false, forall_eq_or_imp, forall_eq, and_self, and_true, true_and, underL_R, underL_Q, underL_U, underL_N, underL_O, ↓fok_B, frzE_B])))); done) ?_; simp only [↓wt, wz, reduceAdd, reduceMul, reduceEqDiff, reduceLeDiff, Nat.reduceLT, reduceLE, reduceLT, reduceEq, reduceNe, underL_R, underL_Q, underL_U, underL_N, underL_O, ↓fok_B, frzE_B]; refine freeze_rule 1 [1, 2, 3, 4, 5, 6] (by simp only [↓wt, wz, reduceAdd, reduceMul, reduceEqDiff, reduceLeDiff, Nat.reduceLT, reduceLE, reduceLT, reduceEq, reduceNe, underL_R, underL_Q, underL_U, underL_N, underL_O, ↓fok_B, frzE_B]; (try (repeat' (first | (exact fun _ => by simp only [pureL_eq, underL_cons, underL_nil, AV.cells, under_l, under_c, under_g, under_e, under_f, underL_B, underL_I, underL_Bs, under_Bs, List.mem_cons, List.not_mem_nil, or_false, forall_eq_or_imp, forall_eq, and_self, and_true, true_and, underL_R, underL_Q, underL_U, underL_N, underL_O, ↓fok_B, frzE_B]) | ((with_reducible refine And.intro ?_ ?_)) | (intro _) | omega | (simp only [pureL_eq, underL_cons, underL_nil, AV.cells, under_l, under_c, under_g, under_e, under_f, underL_B, underL_I, underL_Bs, under_Bs, List.mem_cons, List.not_mem_nil, or_false, forall_eq_or_imp, forall_eq, and_self, and_true, true_and, underL_R, underL_Q, underL_U, underL_N, underL_O, ↓fok_B, frzE_B])))); done) (by simp only [↓wt, wz, reduceAdd, reduceMul, reduceEqDiff, reduceLeDiff, Nat.reduceLT, reduceLE, reduceLT, reduceEq, reduceNe, underL_R, underL_Q, underL_U, underL_N, underL_O, ↓fok_B, frzE_B]; (try (repeat' (first | (exact fun _ => by simp only [pureL_eq, underL_cons, underL_nil, AV.cells, under_l, under_c, under_g, under_e, under_f, underL_B, underL_I, underL_Bs, under_Bs, List.mem_cons, List.not_mem_nil, or_false, forall_eq_or_imp, forall_eq, and_self, and_true, true_and, underL_R, underL_Q, underL_U, underL_N, underL_O, ↓fok_B, frzE_B]) | ((with_reducible refine And.intro ?_ ?_)) | (intro _) | omega | (simp only [pureL_eq, underL_cons, underL_nil, AV.cells, under_l, under_c, under_g, under_e, under_f, underL_B, underL_I, underL_Bs, under_Bs, List.mem_cons, List.not_mem_nil, or_false, forall_eq_or_imp, forall_eq, and_self, and_true, true_and, underL_R, underL_Q, underL_U, underL_N, underL_O, ↓fok_B, frzE_B])))); done) ?_; simp only [↓wt, wz, reduceAdd, reduceMul, reduceEqDiff, reduceLeDiff, Nat.reduceLT, reduceLE, reduceLT, reduceEq, reduceNe, underL_R, underL_Q, underL_U, underL_N, underL_O, ↓fok_B, frzE_B]; refine freeze_rule 3 [1, 2, 3, 4, 5, 6] (by simp only [↓wt, wz, reduceAdd, reduceMul, reduceEqDiff, reduceLeDiff, Nat.reduceLT, reduceLE, reduceLT, reduceEq, reduceNe, underL_R, underL_Q, underL_U, underL_N, underL_O, ↓fok_B, frzE_B]; (try (repeat' (first | (exact fun _ => by simp only [pureL_eq, underL_cons, underL_nil, AV.cells, under_l, under_c, under_g, under_e, under_f, underL_B, underL_I, underL_Bs, under_Bs, List.mem_cons, List.not_mem_nil, or_false, forall_eq_or_imp, forall_eq, and_self, and_true, true_and, underL_R, underL_Q, underL_U, underL_N, underL_O, ↓fok_B, frzE_B]) | ((with_reducible refine And.intro ?_ ?_)) | (intro _) | omega | (simp only [pureL_eq, underL_cons, underL_nil, AV.cells, under_l, under_c, under_g, under_e, under_f, underL_B, underL_I, underL_Bs, under_Bs, List.mem_cons, List.not_mem_nil, or_false, forall_eq_or_imp, forall_eq, and_self, and_true, true_and, underL_R, underL_Q, underL_U, underL_N, underL_O, ↓fok_B, frzE_B])))); done) (by simp only [↓wt, wz, reduceAdd, reduceMul, reduceEqDiff, reduceLeDiff, Nat.reduceLT, reduceLE, reduceLT, reduceEq, reduceNe, underL_R, underL_Q, underL_U, underL_N, underL_O, ↓fok_B, frzE_B]; (try (repeat' (first | (exact fun _ => by simp only [pureL_eq, underL_cons, underL_nil, AV.cells, under_l, under_c, under_g, under_e, under_f, underL_B, underL_I, underL_Bs, under_Bs, List.mem_cons, List.not_mem_nil, or_false, forall_eq_or_imp, forall_eq, and_self, and_true, true_and, underL_R, underL_Q, underL_U, underL_N, underL_O, ↓fok_B, frzE_B]) | ((with_reducible refine And.intro ?_ ?_)) | (intro _) | omega | (simp only [pureL_eq, underL_cons, underL_nil, AV.cells, under_l, under_c, under_g, under_e, under_f, underL_B, underL_I, underL_Bs, under_Bs, List.mem_cons, List.not_mem_nil, or_false, forall_eq_or_imp, forall_eq, and_self, and_true, true_and, underL_R, underL_Q, underL_U, underL_N, underL_O, ↓fok_B, frzE_B])))); done) ?_; simp only [↓wt, wz, reduceAdd, reduceMul, reduceEqDiff, reduceLeDiff, Nat.reduceLT, reduceLE, reduceLT, reduceEq, reduceNe, underL_R, underL_Q, underL_U, underL_N, underL_O, ↓fok_B, frzE_B]
 refine room_rule 4 2 b.length 5 1 (b.map encB) rfl rfl (by simp) (by omega) (pureB _) ?_ ?_
 · refine see_after ?_
   refine draw_rule4 tabOk mixed [(37, 0)] [0, 0, 1, 1, 1, 0, 0, 0, 4, 1, 0] [0, 0, 0, 0, 0, 0, 0, 0, 4, 0, 0] [[], [], [], [1, 2], [0, 1, 2, 3], [0, 1, 2, 3, 4], [0, 1, 2, 3, 4, 5], [0, 1, 2, 3, 4, 5], [], [0, 1, 2, 3, 4, 5, 6, 8], [0, 1, 2, 3, 4, 5, 6, 7, 8, 9]] (by kernel_rfl) (by kernel_rfl) ?_
   simp only [↓wt, wz, reduceAdd, reduceMul, reduceEqDiff, reduceLeDiff, Nat.reduceLT, reduceLE, reduceLT, reduceEq, reduceNe, Mem.drop, remove]
   refine d4_heavyX (fun β => by simp only [↓wt, wz, reduceAdd, reduceMul, reduceEqDiff, reduceLeDiff, Nat.reduceLT, reduceLE, reduceLT, reduceEq, reduceNe]; (repeat (first | refine And.intro (by omega) ?_ | refine And.intro (pureB _) ?_ | refine And.intro (pureI _) ?_ | refine And.intro ⟨pureB _, pureB _⟩ ?_ | refine And.intro ⟨pureB _, pureI _⟩ ?_ | refine And.intro ⟨pureI _, pureB _⟩ ?_ | refine And.intro ⟨pureI _, pureI _⟩ ?_)); exact ⟨rfl, rfl⟩) (fun β => by rfl) ?_
   simp only [↓wt, wz, reduceAdd, reduceMul, reduceEqDiff, reduceLeDiff, Nat.reduceLT, reduceLE, reduceLT, reduceEq, reduceNe]
   refine d4_heavyX (fun β => by simp only [↓wt, wz, reduceAdd, reduceMul, reduceEqDiff, reduceLeDiff, Nat.reduceLT, reduceLE, reduceLT, reduceEq, reduceNe]; (repeat (first | refine And.intro (by omega) ?_ | refine And.intro (pureB _) ?_ | refine And.intro (pureI _) ?_ | refine And.intro ⟨pureB _, pureB _⟩ ?_ | refine And.intro ⟨pureB _, pureI _⟩ ?_ | refine And.intro ⟨pureI _, pureB _⟩ ?_ | refine And.intro ⟨pureI _, pureI _⟩ ?_)); exact ⟨rfl, rfl⟩) (fun β => by rfl) ?_
   simp only [↓wt, wz, reduceAdd, reduceMul, reduceEqDiff, reduceLeDiff, Nat.reduceLT, reduceLE, reduceLT, reduceEq, reduceNe]
   refine d4_heavyC (r := stale 7 (.t [BookV k00, .c (.bool false)])) (fun β => icall_peek [6] m3 ⟨arg_conf' (c := c17), arg_c, arg_own (by simp) rfl (by simp) hp0, trivial⟩ ⟨rfl, rfl⟩) (fun β => by rfl) ?_
   simp only [↓wt, wz, reduceAdd, reduceMul, reduceEqDiff, reduceLeDiff, Nat.reduceLT, reduceLE, reduceLT, reduceEq, reduceNe, stale, staleA, staleC, Mem.next, BookV, Cell]
   refine d_heavyX (by simp only [↓wt, wz, reduceAdd, reduceMul, reduceEqDiff, reduceLeDiff, Nat.reduceLT, reduceLE, reduceLT, reduceEq, reduceNe, Cell]; (repeat (first | refine And.intro (by omega) ?_ | refine And.intro (pureB _) ?_ | refine And.intro (pureI _) ?_ | refine And.intro ⟨pureB _, pureB _⟩ ?_ | refine And.intro ⟨pureB _, pureI _⟩ ?_ | refine And.intro ⟨pureI _, pureB _⟩ ?_ | refine And.intro ⟨pureI _, pureI _⟩ ?_)); exact ⟨rfl, rfl⟩) ?_
   simp only [↓wt, wz, reduceAdd, reduceMul, reduceEqDiff, reduceLeDiff, Nat.reduceLT, reduceLE, reduceLT, reduceEq, reduceNe, Cell]
   refine .done ?_
   simp only [↓wt, wz, reduceAdd, reduceMul, reduceEqDiff, reduceLeDiff, Nat.reduceLT, reduceLE, reduceLT, reduceEq, reduceNe]
   refine icall_drop [] m4 ⟨arg_conf' (c := c17), arg_c, arg_book, trivial⟩ (.c _) ?_
   simp only [↓wt, wz, reduceAdd, reduceMul, reduceEqDiff, reduceLeDiff, Nat.reduceLT, reduceLE, reduceLT, reduceEq, reduceNe]
   refine icall_drop [] m5 ⟨arg_conf' (c := c17), trivial⟩ (.c _) ?_
   simp only [↓wt, wz, reduceAdd, reduceMul, reduceEqDiff, reduceLeDiff, Nat.reduceLT, reduceLE, reduceLT, reduceEq, reduceNe]
   refine icall_drop [] m6 ⟨arg_book, arg_book, trivial⟩ (.c _) ?_
   simp only [↓wt, wz, reduceAdd, reduceMul, reduceEqDiff, reduceLeDiff, Nat.reduceLT, reduceLE, reduceLT, reduceEq, reduceNe, Tryz.results6]
   exact exp_c
 · refine see_after ?_
   refine draw_rule4 tabOk mixed [(37, 0)] [0, 0, 1, 1, 1, 0, 0, 0, 4, 1, 0] [0, 0, 0, 0, 0, 0, 0, 0, 4, 0, 0] [[], [], [], [1, 2], [0, 1, 2, 3], [0, 1, 2, 3, 4], [0, 1, 2, 3, 4, 5], [0, 1, 2, 3, 4, 5], [], [0, 1, 2, 3, 4, 5, 6, 8], [0, 1, 2, 3, 4, 5, 6, 7, 8, 9]] (by kernel_rfl) (by kernel_rfl) ?_
   simp only [↓wt, wz, reduceAdd, reduceMul, reduceEqDiff, reduceLeDiff, Nat.reduceLT, reduceLE, reduceLT, reduceEq, reduceNe]
   refine d4_heavyX (fun β => by simp only [↓wt, wz, reduceAdd, reduceMul, reduceEqDiff, reduceLeDiff, Nat.reduceLT, reduceLE, reduceLT, reduceEq, reduceNe]; (repeat (first | refine And.intro (by omega) ?_ | refine And.intro (pureB _) ?_ | refine And.intro (pureI _) ?_ | refine And.intro ⟨pureB _, pureB _⟩ ?_ | refine And.intro ⟨pureB _, pureI _⟩ ?_ | refine And.intro ⟨pureI _, pureB _⟩ ?_ | refine And.intro ⟨pureI _, pureI _⟩ ?_)); exact ⟨rfl, rfl⟩) (fun β => by rfl) ?_
   simp only [↓wt, wz, reduceAdd, reduceMul, reduceEqDiff, reduceLeDiff, Nat.reduceLT, reduceLE, reduceLT, reduceEq, reduceNe]
   refine d4_heavyX (fun β => by simp only [↓wt, wz, reduceAdd, reduceMul, reduceEqDiff, reduceLeDiff, Nat.reduceLT, reduceLE, reduceLT, reduceEq, reduceNe]; (repeat (first | refine And.intro (by omega) ?_ | refine And.intro (pureB _) ?_ | refine And.intro (pureI _) ?_ | refine And.intro ⟨pureB _, pureB _⟩ ?_ | refine And.intro ⟨pureB _, pureI _⟩ ?_ | refine And.intro ⟨pureI _, pureB _⟩ ?_ | refine And.intro ⟨pureI _, pureI _⟩ ?_)); exact ⟨rfl, rfl⟩) (fun β => by rfl) ?_
   simp only [↓wt, wz, reduceAdd, reduceMul, reduceEqDiff, reduceLeDiff, Nat.reduceLT, reduceLE, reduceLT, reduceEq, reduceNe]
   refine d4_heavyC (r := stale 6 (.t [BookV k00, .c (.bool false)])) (fun β => icall_peek [2] m3 ⟨arg_conf' (c := c17), arg_c, arg_own (by simp) rfl (by simp) hp0, trivial⟩ ⟨rfl, rfl⟩) (fun β => by rfl) ?_
   simp only [↓wt, wz, reduceAdd, reduceMul, reduceEqDiff, reduceLeDiff, Nat.reduceLT, reduceLE, reduceLT, reduceEq, reduceNe, stale, staleA, staleC, Mem.next, BookV, Cell]
   refine d_heavyX (by simp only [↓wt, wz, reduceAdd, reduceMul, reduceEqDiff, reduceLeDiff, Nat.reduceLT, reduceLE, reduceLT, reduceEq, reduceNe, Cell]; (repeat (first | refine And.intro (by omega) ?_ | refine And.intro (pureB _) ?_ | refine And.intro (pureI _) ?_ | refine And.intro ⟨pureB _, pureB _⟩ ?_ | refine And.intro ⟨pureB _, pureI _⟩ ?_ | refine And.intro ⟨pureI _, pureB _⟩ ?_ | refine And.intro ⟨pureI _, pureI _⟩ ?_)); exact ⟨rfl, rfl⟩) ?_
   simp only [↓wt, wz, reduceAdd, reduceMul, reduceEqDiff, reduceLeDiff, Nat.reduceLT, reduceLE, reduceLT, reduceEq, reduceNe, Cell]
   refine .done ?_
   simp only [↓wt, wz, reduceAdd, reduceMul, reduceEqDiff, reduceLeDiff, Nat.reduceLT, reduceLE, reduceLT, reduceEq, reduceNe]
   refine icall_drop [] m4 ⟨arg_conf' (c := c17), arg_c, arg_book, trivial⟩ (.c _) ?_
   simp only [↓wt, wz, reduceAdd, reduceMul, reduceEqDiff, reduceLeDiff, Nat.reduceLT, reduceLE, reduceLT, reduceEq, reduceNe]
   refine icall_drop [] m5 ⟨arg_conf' (c := c17), trivial⟩ (.c _) ?_
   simp only [↓wt, wz, reduceAdd, reduceMul, reduceEqDiff, reduceLeDiff, Nat.reduceLT, reduceLE, reduceLT, reduceEq, reduceNe]
   refine icall_drop [] m6 ⟨arg_book, arg_book, trivial⟩ (.c _) ?_
   simp only [↓wt, wz, reduceAdd, reduceMul, reduceEqDiff, reduceLeDiff, Nat.reduceLT, reduceLE, reduceLT, reduceEq, reduceNe, Tryz.results6]
   exact exp_c
end Go.Ab
namespace Go.Ab
open Go Go.Proofs Go.RowKit
def c6 : Conf := ⟨1, 1, 0, 1, 0, 9⟩
def l6 : List RowD := [⟨5, 0, [0]⟩]
theorem numsB_len (l : List RowD) : (numsB l).length = 2 * l.length + (l.map fun r => r.o.length).sum := by
 induction l with
 | nil => rfl
 | cons r l ih => simp only [numsB, List.length_append, numsR_len, ih, List.length_cons, List.map_cons, List.sum_cons]; omega
theorem isum_lens (l : List RowD) : isum (fun j => ((rowAt l j).o.length : Int)) l.length = ((l.map fun r => r.o.length).sum : Nat) := by
 have key : ∀ k, k ≤ l.length → isum (fun j => ((rowAt l j).o.length : Int)) k = (((l.take k).map fun r => r.o.length).sum : Nat) := by
  intro k
  induction k with
  | zero => intro _; simp [isum]
  | succ k ih =>
   intro h
   simp only [isum]
   rw [ih (by omega), take_snoc (by omega)]
   simp
 have := key l.length (Nat.le_refl _)
 rwa [List.take_length] at this
theorem short_nums {l : List RowD} (h : ShortB l) : (numsB l).length ≤ 800 ∧ l.length ≤ 400 := by
 unfold ShortB shN at h
 rw [isum_lens] at h
 rw [numsB_len]
 omega
end Go.Ab
