/- Books: the document's: counted numbers, flags. -/
import Derived.Test.YtkikaagieknpdaaGreatTMl9
import Derived.Test.YtkikaagieknpdaaGreatBk24
import Derived.Test.YtkikaagieknpdaaGreatBk20
set_option linter.unusedSimpArgs false
set_option linter.unusedVariables false
set_option linter.constructorNameAsVariable false
set_option maxRecDepth 100000
open Nat (reduceAdd reduceMul reduceEqDiff reduceLeDiff)
open Int (reduceLE reduceLT reduceEq reduceNe)
namespace Go.Ab
open Go Go.Proofs Go.RowKit
theorem rone_call (b : Bool) : PCall Tryz.prog 40 [.c (.bool b)] (.c (.int .i64 (flagI b))) := by
 refine pcall_body tabOk Tryz.func40 rfl rfl (by rw [Tryz.ntmps40]; simp) ?_
 simp only [Tryz.ntmps40]
 cases b
 · simp only [↓wt, wz, reduceAdd, reduceMul, reduceEqDiff, reduceLeDiff, Nat.reduceLT, reduceLE, reduceLT, reduceEq, reduceNe, Tryz.results40]
   exact exp_self (.c _)
 · simp only [↓wt, wz, reduceAdd, reduceMul, reduceEqDiff, reduceLeDiff, Nat.reduceLT, reduceLE, reduceLT, reduceEq, reduceNe, Tryz.results40]
   exact exp_self (.c _)
end Go.Ab
