/- BookNew: the law. Claims: notes, messages and stamps that came in. Books .. -/
import Derived.Test.YtkikaagieknpdaaTCl4
import Derived.Test.YtkikaagieknpdaaTRt15
import Derived.Test.YtkikaagieknpdaaAbG5
import Derived.Test.YtkikaagieknpdaaAbG6
import Derived.Test.YtkikaagieknpdaaTRt12
set_option linter.unusedSimpArgs false
set_option linter.unusedVariables false
set_option linter.constructorNameAsVariable false
set_option maxRecDepth 100000
open Nat (reduceAdd reduceMul reduceEqDiff reduceLeDiff)
open Int (reduceLE reduceLT reduceEq reduceNe)
namespace Go.Ab
open Go Go.Proofs Go.RowKit
theorem new_lens (c : Conf) (who : Int) : BLens (newK c who).1 := by
 by_cases h : ThereC c who
 · exact wf_lens (may_wf (new_may h))
 · rw [newK, if_neg h]; exact ⟨lens_dec (by decide), by decide, by decide, by decide, by decide, by decide, by decide⟩
theorem new_iff (c : Conf) (who : Int) : (decide (MayK c who (newK c who).1) == decide ((newK c who).2 = 0)) = true := by
 rw [beq_iff_eq, Bool.eq_iff_iff, decide_eq_true_iff, decide_eq_true_iff]
 by_cases h : ThereC c who
 · exact ⟨fun _ => by rw [newK, if_pos h], fun _ => new_may h⟩
 · exact ⟨fun hm => absurd hm.1 h, fun h0 => by rw [newK, if_neg h] at h0; cases h0⟩
theorem okR_bn {k : BookD} {v : Value} : OkR (Under 0) (.t [BookV k, .c v]) :=
 ⟨⟨.c _, .l _ _ (pureR _), .l _ _ (pureQ _), .l _ _ (pureU _), .c _, .l _ _ (pureN _), .c _, .c _, .l _ _ (pureO _), .l _ _ (pureI _), .l _ _ (pureI _), .c _, trivial⟩, .c _, trivial⟩
set_option maxHeartbeats 2000000 in
theorem bnew17_call (c : Conf) (w : Int) : PCall Try.prog 3 [ConfA c, .c (.int .i64 w)] (.c (.bool true)) := by
 refine pcall_body tabOk Try.func3 rfl rfl (by rw [Try.ntmps3]; simp) ?_
 simp only [Try.ntmps3, ConfA]
 simp only [↓wt, wz, reduceAdd, reduceMul, reduceEqDiff, reduceLeDiff, Nat.reduceLT, reduceLE, reduceLT, reduceEq, reduceNe]
 refine icall_drop [] bklaw_call trivial (.c _) ?_
 simp only [↓wt, wz, reduceAdd, reduceMul, reduceEqDiff, reduceLeDiff, Nat.reduceLT, reduceLE, reduceLT, reduceEq, reduceNe]
 refine icall_drop [] (bknew_call c w) ⟨arg_conf', arg_c, trivial⟩ okR_bn ?_
 simp only [↓wt, wz, reduceAdd, reduceMul, reduceEqDiff, reduceLeDiff, Nat.reduceLT, reduceLE, reduceLT, reduceEq, reduceNe, BookV, Cell]
 refine icall_drop [] (rbknew_call c w) ⟨arg_conf', arg_c, trivial⟩ okR_bn ?_
 simp only [↓wt, wz, reduceAdd, reduceMul, reduceEqDiff, reduceLeDiff, Nat.reduceLT, reduceLE, reduceLT, reduceEq, reduceNe, BookV, Cell]
 have m3 := rbksame_call (newK c w).1 (newK c w).1 (new_lens c w)
 rw [decide_eq_true rfl] at m3
 refine icall_drop [] m3 ⟨arg_book, arg_book, trivial⟩ (.c _) ?_
 simp only [↓wt, wz, reduceAdd, reduceMul, reduceEqDiff, reduceLeDiff, Nat.reduceLT, reduceLE, reduceLT, reduceEq, reduceNe]
 refine icall_drop [] (bkmay_call c w (newK c w).1 (new_lens c w)) ⟨arg_conf', arg_c, arg_book, trivial⟩ (.c _) ?_
 have hi := new_iff c w
 simp only [↓wt, wz, reduceAdd, reduceMul, reduceEqDiff, reduceLeDiff, Nat.reduceLT, reduceLE, reduceLT, reduceEq, reduceNe, hi, Try.results3]
 exact exp_c
end Go.Ab
namespace Go.Ab
open Go Go.Proofs Go.RowKit Go.ChangeShapes Go.WideShapes Go.ChangeAt
end Go.Ab
namespace Go.Ab
open Go Go.Proofs Go.RowKit Go.ChangeShapes Go.WideShapes Go.ChangeAt
end Go.Ab
namespace Go.Ab
open Go Go.Proofs Go.RowKit
def c6 : Conf := ⟨1, 1, 0, 1, 0, 9⟩
def l6 : List RowD := [⟨5, 0, [0]⟩]
end Go.Ab
namespace Go.Ab
open Go Go.Proofs Go.RowKit Go.ChangeShapes Go.WideShapes Go.ChangeAt
end Go.Ab
