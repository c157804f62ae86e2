/- Claims: may it be a note: the document's, another part. -/
import Derived.Test.YtkikaagieknpdaaGreatTRt15
set_option linter.unusedSimpArgs false
set_option linter.unusedVariables false
set_option linter.constructorNameAsVariable false
set_option maxRecDepth 100000
open Nat (reduceAdd reduceMul reduceEqDiff reduceLeDiff)
open Int (reduceLE reduceLT reduceEq reduceNe)
namespace Go.Ab
open Go Go.Proofs Go.RowKit
set_option maxHeartbeats 4000000 in
theorem rnote_C1 (c : Conf) (who : Int) (n : NoteD) (hn : ¬ NoteOk c who n) (h1 : n.t = 0) (h2 : n.w = 0) (h3 : ¬ n.a = 0) : PCall Tryz.prog 93 [ConfA c, .c (.int .i64 who), NoteV n] (.c (.bool (decide (NoteOk c who n)))) := by
 have f1 : decide (n.t = 0) = true := decide_eq_true h1
 have f2 : decide (n.w = 0) = true := decide_eq_true h2
 have f3 : decide (n.a = 0) = false := decide_eq_false h3
 have f4 : decide (MaySt n.t n.w c.n) = false := decide_eq_false fun h => by unfold MaySt at h; omega
 refine pcall_body tabOk Tryz.func93 rfl rfl (by rw [Tryz.ntmps93]; simp) ?_
 simp only [Tryz.ntmps93, ConfA, NoteV]
 simp only [↓wt, wz, reduceAdd, reduceMul, reduceEqDiff, reduceLeDiff, Nat.reduceLT, reduceLE, reduceLT, reduceEq, reduceNe, f1, f2, f3]
 refine icall_drop [] (rstmay_call n.t n.w c.n) ⟨arg_st, arg_c, trivial⟩ (.c _) ?_
 simp only [↓wt, wz, reduceAdd, reduceMul, reduceEqDiff, reduceLeDiff, Nat.reduceLT, reduceLE, reduceLT, reduceEq, reduceNe, f4]
 repeat' (first | ((first | refine r_casesD (fun hp hb => ?_) (fun hp hb => ?_) | refine r_casesN (fun hp hb => ?_) (fun hp hb => ?_) | refine r_casesM (fun hp hb => ?_) (fun hp hb => ?_) | refine r_casesB (fun hp hb => ?_) (fun hp hb => ?_) | refine r_gcasesD (fun hp hb => ?_) (fun hp hb => ?_) | refine r_gcasesN (fun hp hb => ?_) (fun hp hb => ?_) | refine r_gcasesM (fun hp hb => ?_) (fun hp hb => ?_) | refine r_gcasesB (fun hp hb => ?_) (fun hp hb => ?_)) <;> simp only [↓wt, wz, reduceAdd, reduceMul, reduceEqDiff, reduceLeDiff, Nat.reduceLT, reduceLE, reduceLT, reduceEq, reduceNe, Tryz.results93, hb]) | ((with_reducible refine And.intro ?_ ?_); omega) | fail)
 all_goals exact exp_bF hn
set_option maxHeartbeats 4000000 in
theorem rnote_C2 (c : Conf) (who : Int) (n : NoteD) (hn : ¬ NoteOk c who n) (h1 : n.t = 0) (h2 : ¬ n.w = 0) : PCall Tryz.prog 93 [ConfA c, .c (.int .i64 who), NoteV n] (.c (.bool (decide (NoteOk c who n)))) := by
 have f1 : decide (n.t = 0) = true := decide_eq_true h1
 have f2 : decide (n.w = 0) = false := decide_eq_false h2
 have f4 : decide (MaySt n.t n.w c.n) = false := decide_eq_false fun h => by unfold MaySt at h; omega
 refine pcall_body tabOk Tryz.func93 rfl rfl (by rw [Tryz.ntmps93]; simp) ?_
 simp only [Tryz.ntmps93, ConfA, NoteV]
 simp only [↓wt, wz, reduceAdd, reduceMul, reduceEqDiff, reduceLeDiff, Nat.reduceLT, reduceLE, reduceLT, reduceEq, reduceNe, f1, f2]
 refine icall_drop [] (rstmay_call n.t n.w c.n) ⟨arg_st, arg_c, trivial⟩ (.c _) ?_
 simp only [↓wt, wz, reduceAdd, reduceMul, reduceEqDiff, reduceLeDiff, Nat.reduceLT, reduceLE, reduceLT, reduceEq, reduceNe, f4]
 repeat' (first | ((first | refine r_casesD (fun hp hb => ?_) (fun hp hb => ?_) | refine r_casesN (fun hp hb => ?_) (fun hp hb => ?_) | refine r_casesM (fun hp hb => ?_) (fun hp hb => ?_) | refine r_casesB (fun hp hb => ?_) (fun hp hb => ?_) | refine r_gcasesD (fun hp hb => ?_) (fun hp hb => ?_) | refine r_gcasesN (fun hp hb => ?_) (fun hp hb => ?_) | refine r_gcasesM (fun hp hb => ?_) (fun hp hb => ?_) | refine r_gcasesB (fun hp hb => ?_) (fun hp hb => ?_)) <;> simp only [↓wt, wz, reduceAdd, reduceMul, reduceEqDiff, reduceLeDiff, Nat.reduceLT, reduceLE, reduceLT, reduceEq, reduceNe, Tryz.results93, hb]) | ((with_reducible refine And.intro ?_ ?_); omega) | fail)
 all_goals exact exp_bF hn
set_option maxHeartbeats 4000000 in
theorem rnote_C3 (c : Conf) (who : Int) (n : NoteD) (hn : ¬ NoteOk c who n) (h1 : ¬ n.t = 0) (h4 : ¬ MaySt n.t n.w c.n) : PCall Tryz.prog 93 [ConfA c, .c (.int .i64 who), NoteV n] (.c (.bool (decide (NoteOk c who n)))) := by
 have f1 : decide (n.t = 0) = false := decide_eq_false h1
 have f4 : decide (MaySt n.t n.w c.n) = false := decide_eq_false h4
 refine pcall_body tabOk Tryz.func93 rfl rfl (by rw [Tryz.ntmps93]; simp) ?_
 simp only [Tryz.ntmps93, ConfA, NoteV]
 simp only [↓wt, wz, reduceAdd, reduceMul, reduceEqDiff, reduceLeDiff, Nat.reduceLT, reduceLE, reduceLT, reduceEq, reduceNe, f1]
 refine icall_drop [] (rstmay_call n.t n.w c.n) ⟨arg_st, arg_c, trivial⟩ (.c _) ?_
 simp only [↓wt, wz, reduceAdd, reduceMul, reduceEqDiff, reduceLeDiff, Nat.reduceLT, reduceLE, reduceLT, reduceEq, reduceNe, f4]
 repeat' (first | ((first | refine r_casesD (fun hp hb => ?_) (fun hp hb => ?_) | refine r_casesN (fun hp hb => ?_) (fun hp hb => ?_) | refine r_casesM (fun hp hb => ?_) (fun hp hb => ?_) | refine r_casesB (fun hp hb => ?_) (fun hp hb => ?_) | refine r_gcasesD (fun hp hb => ?_) (fun hp hb => ?_) | refine r_gcasesN (fun hp hb => ?_) (fun hp hb => ?_) | refine r_gcasesM (fun hp hb => ?_) (fun hp hb => ?_) | refine r_gcasesB (fun hp hb => ?_) (fun hp hb => ?_)) <;> simp only [↓wt, wz, reduceAdd, reduceMul, reduceEqDiff, reduceLeDiff, Nat.reduceLT, reduceLE, reduceLT, reduceEq, reduceNe, Tryz.results93, hb]) | ((with_reducible refine And.intro ?_ ?_); omega) | fail)
 all_goals exact exp_bF hn
end Go.Ab
