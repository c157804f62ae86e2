/- StoreDo. -/
import Derived.Test.YtdnhojfkjgggbaaDoorSt7
set_option linter.unusedSimpArgs false
set_option linter.unusedVariables false
set_option linter.constructorNameAsVariable false
set_option maxRecDepth 100000
namespace Go.Ab
open Go Go.Proofs Go.RowKit

set_option maxHeartbeats 4000000 in
theorem storedo_call (t : Tape4) (x : List UInt8) (m n : Int) (ht : t.Wd) (hx : x.length ≤ 1000000000000000) (h1 : -9223372036854775808 ≤ n) (h2 : n < 9223372036854775808) :
    PCall Tryd.prog 7 [tv t, Bs x, .c (.int .i64 m), .c (.int .i64 n)] (.c (.bool true)) := by
  have m1 := light_call t x ht (by omega)
  generalize hbb : decide (t.n ≤ 4000 ∧ x.length ≤ 4000) = bb at m1
  refine pcall_body tabOk Tryd.func7 rfl rfl (by rw [Tryd.ntmps7]; simp) ?_
  simp only [Tryd.ntmps7, tv, TapeA, Bs]
  simp only [↓wt, wu, wk0, wk1, wk2, wk3, Nat.reduceAdd, Nat.reduceEqDiff, Nat.reduceLeDiff, Nat.reduceLT, Nat.reduceMul, Int.reduceLE, Int.reduceLT, Int.reduceEq, Int.reduceNe, wk4, laidS, keepS]
  refine icall_drop [] saw_call trivial (.c _) ?_
  simp only [↓wt, wu, wk0, wk1, wk2, wk3, Nat.reduceAdd, Nat.reduceEqDiff, Nat.reduceLeDiff, Nat.reduceLT, Nat.reduceMul, Int.reduceLE, Int.reduceLT, Int.reduceEq, Int.reduceNe, wk4, laidS, keepS]
  refine icall_drop [] m1 ⟨arg_tvE rfl rfl rfl rfl, arg_l (pureB _), trivial⟩ (.c _) ?_
  cases bb with
  | true =>
    have hl := of_decide_eq_true hbb
    have hn : t.n = t.a.length + t.b.length + t.c.length + t.d.length := rfl
    have hLt : t.Lt := ⟨by omega, by omega, by omega, by omega⟩
    have a1 := has_call t hLt
    have a2 := rhas_call t hLt
    have o1 := open_call t hLt
    have o2 := ropen_call t hLt
    have o3 := sameG_call (opT t) (opT t)
    rw [sameT_iff.2 rfl] at o3
    have s1 := save_call t x m hLt (by omega)
    have s2 := rsave_call t x m hLt (by omega)
    have t1 := torn_call t x m n hLt (by omega) h1 h2
    have t2 := rtorn_call t x m n hLt (by omega) h1 h2
    have s3 := sameG_call (savR t x m).1 (savR t x m).1
    rw [sameT_iff.2 rfl] at s3
    have t3 := sameG_call (torR t x m n).1 (torR t x m n).1
    rw [sameT_iff.2 rfl] at t3
    unfold hasV at a1 a2
    unfold resV at s1 s2 t1 t2
    generalize opT t = U at *
    generalize savR t x m = S at *
    generalize torR t x m n = R at *
    obtain ⟨S, c1⟩ := S
    obtain ⟨R, c2⟩ := R
    dsimp only at s1 s2 t1 t2 s3 t3
    generalize lastD (mainF t) = y at *
    generalize decide ((mainF t).length ≠ 0) = hh at *
    have b1 : (y == y) = true := beq_self_eq_true y
    have b2 : (hh == hh) = true := beq_self_eq_true hh
    have b3 : decide (c1 = c1) = true := decide_eq_true rfl
    have b4 : decide (c2 = c2) = true := decide_eq_true rfl
    simp only [↓wt, wu, wk0, wk1, wk2, wk3, Nat.reduceAdd, Nat.reduceEqDiff, Nat.reduceLeDiff, Nat.reduceLT, Nat.reduceMul, Int.reduceLE, Int.reduceLT, Int.reduceEq, Int.reduceNe, wk4, laidS, keepS]
    refine icall_drop [] a1 ⟨arg_tvE rfl rfl rfl rfl, trivial⟩ okR_has ?_
    simp only [↓wt, wu, wk0, wk1, wk2, wk3, Nat.reduceAdd, Nat.reduceEqDiff, Nat.reduceLeDiff, Nat.reduceLT, Nat.reduceMul, Int.reduceLE, Int.reduceLT, Int.reduceEq, Int.reduceNe, wk4, laidS, keepS, tv, TapeA, Bs]
    refine icall_drop [] a2 ⟨arg_tvE rfl rfl rfl rfl, trivial⟩ okR_has ?_
    simp only [↓wt, wu, wk0, wk1, wk2, wk3, Nat.reduceAdd, Nat.reduceEqDiff, Nat.reduceLeDiff, Nat.reduceLT, Nat.reduceMul, Int.reduceLE, Int.reduceLT, Int.reduceEq, Int.reduceNe, wk4, laidS, keepS, tv, TapeA, Bs]
    refine draw_rule tabOk mixed [0, 2, 0, 2, 0, 0, 0, 0, 0, 0, 0, 2, 3, 2, 3, 3, 0, 0] [[], [0], [], [2], [0, 1, 2, 3], [0, 1, 2, 3, 4], [0, 1, 2, 3, 4, 5], [0, 1, 2, 3, 4, 5], [0, 1, 2, 3, 4, 5, 6, 7], [0, 1, 2, 3, 4, 5, 6, 7, 8], [0, 1, 2, 3, 4, 5, 6, 7, 8, 9], [0, 1, 2, 3, 4, 5, 6, 7, 8, 9, 10], [0, 1, 2, 3, 4, 5, 6, 7, 8, 9, 10, 11], [0, 1, 2, 3, 4, 5, 6, 7, 8, 9, 10], [0, 1, 2, 3, 4, 5, 6, 7, 8, 9, 10, 11, 12, 13], [0, 1, 2, 3, 4, 5, 6, 7, 8, 9, 10, 11, 12, 13, 14], [0, 1, 2, 3, 4, 5, 6, 7, 8, 9, 10, 11, 12, 13, 14, 15], [0, 1, 2, 3, 4, 5, 6, 7, 8, 9, 10, 11, 12, 13, 14, 15, 16]] (by kernel_rfl) ?_
    simp only [↓wt, wu, wk0, wk1, wk2, wk3, Nat.reduceAdd, Nat.reduceEqDiff, Nat.reduceLeDiff, Nat.reduceLT, Nat.reduceMul, Int.reduceLE, Int.reduceLT, Int.reduceEq, Int.reduceNe, wk4, laidS, keepS, b1, b2, bne_self_eq_false]
    refine d_pureC (r := tv U) (fun M0 => icall_drop [] o1 ⟨arg_tvE rfl rfl rfl rfl, trivial⟩ okR_tape ⟨rfl, rfl⟩) ?_
    simp only [↓wt, wu, wk0, wk1, wk2, wk3, Nat.reduceAdd, Nat.reduceEqDiff, Nat.reduceLeDiff, Nat.reduceLT, Nat.reduceMul, Int.reduceLE, Int.reduceLT, Int.reduceEq, Int.reduceNe, wk4, laidS, keepS, tv, TapeA, Bs]
    refine d_pureC (r := tv U) (fun M0 => icall_drop [] o2 ⟨arg_tvE rfl rfl rfl rfl, trivial⟩ okR_tape ⟨rfl, rfl⟩) ?_
    simp only [↓wt, wu, wk0, wk1, wk2, wk3, Nat.reduceAdd, Nat.reduceEqDiff, Nat.reduceLeDiff, Nat.reduceLT, Nat.reduceMul, Int.reduceLE, Int.reduceLT, Int.reduceEq, Int.reduceNe, wk4, laidS, keepS, tv, TapeA, Bs]
    refine d_pureC (fun M0 => icall_drop [] o3 ⟨arg_tvE rfl rfl rfl rfl, arg_tvE rfl rfl rfl rfl, trivial⟩ (.c _) ⟨rfl, rfl⟩) ?_
    simp only [↓wt, wu, wk0, wk1, wk2, wk3, Nat.reduceAdd, Nat.reduceEqDiff, Nat.reduceLeDiff, Nat.reduceLT, Nat.reduceMul, Int.reduceLE, Int.reduceLT, Int.reduceEq, Int.reduceNe, wk4, laidS, keepS, tv, TapeA, Bs]
    refine icall_drop [] s1 ⟨arg_tvE rfl rfl rfl rfl, arg_l (pureB _), arg_c, trivial⟩ okR_res ?_
    simp only [↓wt, wu, wk0, wk1, wk2, wk3, Nat.reduceAdd, Nat.reduceEqDiff, Nat.reduceLeDiff, Nat.reduceLT, Nat.reduceMul, Int.reduceLE, Int.reduceLT, Int.reduceEq, Int.reduceNe, wk4, laidS, keepS, tv, TapeA, Bs]
    refine icall_drop [] s2 ⟨arg_tvE rfl rfl rfl rfl, arg_l (pureB _), arg_c, trivial⟩ okR_res ?_
    simp only [↓wt, wu, wk0, wk1, wk2, wk3, Nat.reduceAdd, Nat.reduceEqDiff, Nat.reduceLeDiff, Nat.reduceLT, Nat.reduceMul, Int.reduceLE, Int.reduceLT, Int.reduceEq, Int.reduceNe, wk4, laidS, keepS, tv, TapeA, Bs]
    refine icall_drop [] t1 ⟨arg_tvE rfl rfl rfl rfl, arg_l (pureB _), arg_c, arg_c, trivial⟩ okR_res ?_
    simp only [↓wt, wu, wk0, wk1, wk2, wk3, Nat.reduceAdd, Nat.reduceEqDiff, Nat.reduceLeDiff, Nat.reduceLT, Nat.reduceMul, Int.reduceLE, Int.reduceLT, Int.reduceEq, Int.reduceNe, wk4, laidS, keepS, tv, TapeA, Bs]
    refine icall_drop [] t2 ⟨arg_tvE rfl rfl rfl rfl, arg_l (pureB _), arg_c, arg_c, trivial⟩ okR_res ?_
    simp only [↓wt, wu, wk0, wk1, wk2, wk3, Nat.reduceAdd, Nat.reduceEqDiff, Nat.reduceLeDiff, Nat.reduceLT, Nat.reduceMul, Int.reduceLE, Int.reduceLT, Int.reduceEq, Int.reduceNe, wk4, laidS, keepS, tv, TapeA, Bs]
    refine icall_drop [] s3 ⟨arg_tvE rfl rfl rfl rfl, arg_tvE rfl rfl rfl rfl, trivial⟩ (.c _) ?_
    simp only [↓wt, wu, wk0, wk1, wk2, wk3, Nat.reduceAdd, Nat.reduceEqDiff, Nat.reduceLeDiff, Nat.reduceLT, Nat.reduceMul, Int.reduceLE, Int.reduceLT, Int.reduceEq, Int.reduceNe, wk4, laidS, keepS, tv, TapeA, Bs, b3]
    refine icall_drop [] t3 ⟨arg_tvE rfl rfl rfl rfl, arg_tvE rfl rfl rfl rfl, trivial⟩ (.c _) ?_
    simp only [↓wt, wu, wk0, wk1, wk2, wk3, Nat.reduceAdd, Nat.reduceEqDiff, Nat.reduceLeDiff, Nat.reduceLT, Nat.reduceMul, Int.reduceLE, Int.reduceLT, Int.reduceEq, Int.reduceNe, wk4, laidS, keepS, tv, TapeA, Bs, b4, Tryd.results7]
    exact exp_c
  | false =>
    simp only [↓wt, wu, wk0, wk1, wk2, wk3, Nat.reduceAdd, Nat.reduceEqDiff, Nat.reduceLeDiff, Nat.reduceLT, Nat.reduceMul, Int.reduceLE, Int.reduceLT, Int.reduceEq, Int.reduceNe, wk4, laidS, keepS, Tryd.results7]
    exact exp_c
end Go.Ab
