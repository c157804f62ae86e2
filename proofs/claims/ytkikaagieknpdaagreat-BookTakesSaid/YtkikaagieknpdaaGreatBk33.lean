/- BookTakes: the law. -/
import Derived.Test.YtkikaagieknpdaaGreatTCl4
import Derived.Test.YtkikaagieknpdaaGreatBk28
set_option linter.unusedSimpArgs false
set_option linter.unusedVariables false
set_option linter.constructorNameAsVariable false
set_option maxRecDepth 100000
open Nat (reduceAdd reduceMul reduceEqDiff reduceLeDiff)
open Int (reduceLE reduceLT reduceEq reduceNe)
namespace Go.Ab
open Go Go.Proofs Go.RowKit
theorem okR_bk {k : BookD} {v : Value} : OkR (Under 0) (.t [BookV k, .c v]) :=
 ⟨⟨.c _, .l _ _ (pureR _), .l _ _ (pureQ _), .l _ _ (pureU _), .c _, .l _ _ (pureN _), .c _, .c _, .l _ _ (pureO _), .l _ _ (pureI _), .l _ _ (pureI _), .c _, trivial⟩, .c _, trivial⟩
theorem take_lens (c : Conf) (w : Int) (s : List UInt8) : BLens (takeBk c w s).1 := by
 rcases takeBk_is c w s with ⟨_, h, _⟩ | ⟨h, _⟩
 · exact wf_lens (may_wf h)
 · rw [h]; exact ⟨lens_dec (by decide), by decide, by decide, by decide, by decide, by decide, by decide⟩
set_option maxHeartbeats 2000000 in
theorem btakes_call (c : Conf) (w : Int) (b : List UInt8) (hb : b.length < 4611686018427387904) : PCall Tryz.prog 3 [ConfA c, .c (.int .i64 w), Bs b] (.c (.bool true)) := by
 refine pcall_body tabOk Tryz.func3 rfl rfl (by rw [Tryz.ntmps3]; simp) ?_
 simp only [Tryz.ntmps3, ConfA, Bs]
 simp only [↓wt, wz, reduceAdd, reduceMul, reduceEqDiff, reduceLeDiff, Nat.reduceLT, reduceLE, reduceLT, reduceEq, reduceNe]
 refine icall_drop [] bklaw_call trivial (.c _) ?_
 cases e1 : decide ((b.length : Int) > 2000)
 rotate_left
 · simp only [↓wt, wz, reduceAdd, reduceMul, reduceEqDiff, reduceLeDiff, Nat.reduceLT, reduceLE, reduceLT, reduceEq, reduceNe, e1, Tryz.results3]
   exact exp_c
 have hb2 : b.length ≤ 2000 := by have := of_decide_eq_false e1; omega
 have hs := take_lens c w b
 simp only [↓wt, wz, reduceAdd, reduceMul, reduceEqDiff, reduceLeDiff, Nat.reduceLT, reduceLE, reduceLT, reduceEq, reduceNe, e1]
 refine icall_drop [] (bktake_call c w b (by omega)) ⟨arg_conf', arg_c, arg_l (pureB _), trivial⟩ okR_bk ?_
 simp only [↓wt, wz, reduceAdd, reduceMul, reduceEqDiff, reduceLeDiff, Nat.reduceLT, reduceLE, reduceLT, reduceEq, reduceNe, BookV, Cell]
 refine icall_drop [] (rbktake_call c w b (by omega)) ⟨arg_conf', arg_c, arg_l (pureB _), trivial⟩ okR_bk ?_
 simp only [↓wt, wz, reduceAdd, reduceMul, reduceEqDiff, reduceLeDiff, Nat.reduceLT, reduceLE, reduceLT, reduceEq, reduceNe, BookV, Cell]
 have m3 := rbksame_call (takeBk c w b).1 (takeBk c w b).1 hs
 rw [decide_eq_true rfl] at m3
 refine icall_drop [] m3 ⟨arg_book, arg_book, trivial⟩ (.c _) ?_
 simp only [↓wt, wz, reduceAdd, reduceMul, reduceEqDiff, reduceLeDiff, Nat.reduceLT, reduceLE, reduceLT, reduceEq, reduceNe, Tryz.results3]
 exact exp_c
end Go.Ab
