/- Claims: may it be a note: the document's, a third part. -/
import Derived.Test.YtkikaagieknpdaaGreatTRt15
set_option linter.unusedSimpArgs false
set_option linter.unusedVariables false
set_option linter.constructorNameAsVariable false
set_option maxRecDepth 100000
open Nat (reduceAdd reduceMul reduceEqDiff reduceLeDiff)
open Int (reduceLE reduceLT reduceEq reduceNe)
namespace Go.Ab
open Go Go.Proofs Go.RowKit
set_option maxHeartbeats 4000000 in
theorem rnote_C4 (c : Conf) (who : Int) (n : NoteD) (hn : ¬ NoteOk c who n) (h1 : ¬ n.t = 0) (h4 : MaySt n.t n.w c.n) (h5 : ¬ n.w = who) : PCall Tryz.prog 93 [ConfA c, .c (.int .i64 who), NoteV n] (.c (.bool (decide (NoteOk c who n)))) := by
 have f1 : decide (n.t = 0) = false := decide_eq_false h1
 have f4 : decide (MaySt n.t n.w c.n) = true := decide_eq_true h4
 have f5 : decide (n.w = who) = false := decide_eq_false h5
 refine pcall_body tabOk Tryz.func93 rfl rfl (by rw [Tryz.ntmps93]; simp) ?_
 simp only [Tryz.ntmps93, ConfA, NoteV]
 simp only [↓wt, wz, reduceAdd, reduceMul, reduceEqDiff, reduceLeDiff, Nat.reduceLT, reduceLE, reduceLT, reduceEq, reduceNe, f1]
 refine icall_drop [] (rstmay_call n.t n.w c.n) ⟨arg_st, arg_c, trivial⟩ (.c _) ?_
 simp only [↓wt, wz, reduceAdd, reduceMul, reduceEqDiff, reduceLeDiff, Nat.reduceLT, reduceLE, reduceLT, reduceEq, reduceNe, f4, f5]
 repeat' (first | ((first | refine r_casesD (fun hp hb => ?_) (fun hp hb => ?_) | refine r_casesN (fun hp hb => ?_) (fun hp hb => ?_) | refine r_casesM (fun hp hb => ?_) (fun hp hb => ?_) | refine r_casesB (fun hp hb => ?_) (fun hp hb => ?_) | refine r_gcasesD (fun hp hb => ?_) (fun hp hb => ?_) | refine r_gcasesN (fun hp hb => ?_) (fun hp hb => ?_) | refine r_gcasesM (fun hp hb => ?_) (fun hp hb => ?_) | refine r_gcasesB (fun hp hb => ?_) (fun hp hb => ?_)) <;> simp only [↓wt, wz, reduceAdd, reduceMul, reduceEqDiff, reduceLeDiff, Nat.reduceLT, reduceLE, reduceLT, reduceEq, reduceNe, Tryz.results93, hb]) | ((with_reducible refine And.intro ?_ ?_); omega) | fail)
 all_goals exact exp_bF hn
set_option maxHeartbeats 4000000 in
theorem rnote_C5 (c : Conf) (who : Int) (n : NoteD) (hn : ¬ NoteOk c who n) (h1 : ¬ n.t = 0) (h4 : MaySt n.t n.w c.n) (h5 : n.w = who) (h6 : ¬ n.a > 0) : PCall Tryz.prog 93 [ConfA c, .c (.int .i64 who), NoteV n] (.c (.bool (decide (NoteOk c who n)))) := by
 have f1 : decide (n.t = 0) = false := decide_eq_false h1
 have f4 : decide (MaySt n.t n.w c.n) = true := decide_eq_true h4
 have f5 : decide (n.w = who) = true := decide_eq_true h5
 have f6 : decide (n.a > 0) = false := decide_eq_false h6
 refine pcall_body tabOk Tryz.func93 rfl rfl (by rw [Tryz.ntmps93]; simp) ?_
 simp only [Tryz.ntmps93, ConfA, NoteV]
 simp only [↓wt, wz, reduceAdd, reduceMul, reduceEqDiff, reduceLeDiff, Nat.reduceLT, reduceLE, reduceLT, reduceEq, reduceNe, f1]
 refine icall_drop [] (rstmay_call n.t n.w c.n) ⟨arg_st, arg_c, trivial⟩ (.c _) ?_
 simp only [↓wt, wz, reduceAdd, reduceMul, reduceEqDiff, reduceLeDiff, Nat.reduceLT, reduceLE, reduceLT, reduceEq, reduceNe, f4, f5, f6]
 repeat' (first | ((first | refine r_casesD (fun hp hb => ?_) (fun hp hb => ?_) | refine r_casesN (fun hp hb => ?_) (fun hp hb => ?_) | refine r_casesM (fun hp hb => ?_) (fun hp hb => ?_) | refine r_casesB (fun hp hb => ?_) (fun hp hb => ?_) | refine r_gcasesD (fun hp hb => ?_) (fun hp hb => ?_) | refine r_gcasesN (fun hp hb => ?_) (fun hp hb => ?_) | refine r_gcasesM (fun hp hb => ?_) (fun hp hb => ?_) | refine r_gcasesB (fun hp hb => ?_) (fun hp hb => ?_)) <;> simp only [↓wt, wz, reduceAdd, reduceMul, reduceEqDiff, reduceLeDiff, Nat.reduceLT, reduceLE, reduceLT, reduceEq, reduceNe, Tryz.results93, hb]) | ((with_reducible refine And.intro ?_ ?_); omega) | fail)
 all_goals exact exp_bF hn
set_option maxHeartbeats 4000000 in
theorem rnote_C6 (c : Conf) (who : Int) (n : NoteD) (hn : ¬ NoteOk c who n) (h1 : ¬ n.t = 0) (h4 : MaySt n.t n.w c.n) (h5 : n.w = who) (h6 : n.a > 0) (h7 : ¬ n.a ≤ 1099511627776) : PCall Tryz.prog 93 [ConfA c, .c (.int .i64 who), NoteV n] (.c (.bool (decide (NoteOk c who n)))) := by
 have f1 : decide (n.t = 0) = false := decide_eq_false h1
 have f4 : decide (MaySt n.t n.w c.n) = true := decide_eq_true h4
 have f5 : decide (n.w = who) = true := decide_eq_true h5
 have f6 : decide (n.a > 0) = true := decide_eq_true h6
 have f7 : decide (n.a ≤ 1099511627776) = false := decide_eq_false h7
 refine pcall_body tabOk Tryz.func93 rfl rfl (by rw [Tryz.ntmps93]; simp) ?_
 simp only [Tryz.ntmps93, ConfA, NoteV]
 simp only [↓wt, wz, reduceAdd, reduceMul, reduceEqDiff, reduceLeDiff, Nat.reduceLT, reduceLE, reduceLT, reduceEq, reduceNe, f1]
 refine icall_drop [] (rstmay_call n.t n.w c.n) ⟨arg_st, arg_c, trivial⟩ (.c _) ?_
 simp only [↓wt, wz, reduceAdd, reduceMul, reduceEqDiff, reduceLeDiff, Nat.reduceLT, reduceLE, reduceLT, reduceEq, reduceNe, f4, f5, f6, f7]
 repeat' (first | ((first | refine r_casesD (fun hp hb => ?_) (fun hp hb => ?_) | refine r_casesN (fun hp hb => ?_) (fun hp hb => ?_) | refine r_casesM (fun hp hb => ?_) (fun hp hb => ?_) | refine r_casesB (fun hp hb => ?_) (fun hp hb => ?_) | refine r_gcasesD (fun hp hb => ?_) (fun hp hb => ?_) | refine r_gcasesN (fun hp hb => ?_) (fun hp hb => ?_) | refine r_gcasesM (fun hp hb => ?_) (fun hp hb => ?_) | refine r_gcasesB (fun hp hb => ?_) (fun hp hb => ?_)) <;> simp only [↓wt, wz, reduceAdd, reduceMul, reduceEqDiff, reduceLeDiff, Nat.reduceLT, reduceLE, reduceLT, reduceEq, reduceNe, Tryz.results93, hb]) | ((with_reducible refine And.intro ?_ ?_); omega) | fail)
 all_goals exact exp_bF hn
end Go.Ab
