/- Tapes: the law TapeDo. -/
import Derived.Test.YtpjmbigfgoogaacAb38
import Derived.Test.YtpjmbigfgoogaacTp8
set_option linter.unusedSimpArgs false
set_option linter.unusedVariables false
set_option linter.constructorNameAsVariable false
set_option maxRecDepth 100000
namespace Go.Ab
open Go Go.Proofs Go.RowKit

set_option maxHeartbeats 4000000 in
theorem tapedo_call (t : Tape4) (sp : Bool) (x : List UInt8) (n : Int) (h1 : -9223372036854775808 ≤ n) (h2 : n < 9223372036854775808) : PCall Try.prog 5 [tv t, .c (.bool sp), Bs x, .c (.int .i64 n)] (.c (.bool true)) := by
  have q1 := short_call t
  refine pcall_body tabOk Try.func5 rfl rfl (by rw [Try.ntmps5]; simp) ?_
  simp only [Try.ntmps5, Bs, tv, TapeA]
  simp only [↓wt, wu, wk0, wk1, wk2, wk3, Nat.reduceAdd, Nat.reduceEqDiff, Nat.reduceLeDiff, Nat.reduceLT, Nat.reduceMul, Int.reduceLE, Int.reduceLT, Int.reduceEq, Int.reduceNe, List.flatMap_cons, List.flatMap_nil]
  refine icall_drop [] awake_call trivial (.c _) ?_
  simp only [↓wt, wu, wk0, wk1, wk2, wk3, Nat.reduceAdd, Nat.reduceEqDiff, Nat.reduceLeDiff, Nat.reduceLT, Nat.reduceMul, Int.reduceLE, Int.reduceLT, Int.reduceEq, Int.reduceNe, List.flatMap_cons, List.flatMap_nil]
  refine icall_drop [] q1 ⟨arg_tvE rfl rfl rfl rfl, trivial⟩ (.c _) ?_
  simp only [↓wt, wu, wk0, wk1, wk2, wk3, Nat.reduceAdd, Nat.reduceEqDiff, Nat.reduceLeDiff, Nat.reduceLT, Nat.reduceMul, Int.reduceLE, Int.reduceLT, Int.reduceEq, Int.reduceNe, List.flatMap_cons, List.flatMap_nil]
  cases f1 : decide (t.a.length ≤ 70000 ∧ t.b.length ≤ 70000 ∧ t.c.length ≤ 70000 ∧ t.d.length ≤ 70000) with
  | false => simp only [↓wt, wu, wk0, wk1, wk2, wk3, Nat.reduceAdd, Nat.reduceEqDiff, Nat.reduceLeDiff, Nat.reduceLT, Nat.reduceMul, Int.reduceLE, Int.reduceLT, Int.reduceEq, Int.reduceNe, List.flatMap_cons, List.flatMap_nil, Try.results5]; exact exp_c
  | true =>
    simp only [↓wt, wu, wk0, wk1, wk2, wk3, Nat.reduceAdd, Nat.reduceEqDiff, Nat.reduceLeDiff, Nat.reduceLT, Nat.reduceMul, Int.reduceLE, Int.reduceLT, Int.reduceEq, Int.reduceNe, List.flatMap_cons, List.flatMap_nil]
    cases f2 : decide ((x.length : Int) > 70000) with
    | true => simp only [↓wt, wu, wk0, wk1, wk2, wk3, Nat.reduceAdd, Nat.reduceEqDiff, Nat.reduceLeDiff, Nat.reduceLT, Nat.reduceMul, Int.reduceLE, Int.reduceLT, Int.reduceEq, Int.reduceNe, List.flatMap_cons, List.flatMap_nil, Try.results5]; exact exp_c
    | false =>
      have g1 := of_decide_eq_true f1
      have g2 := of_decide_eq_false f2
      simp only [↓wt, wu, wk0, wk1, wk2, wk3, Nat.reduceAdd, Nat.reduceEqDiff, Nat.reduceLeDiff, Nat.reduceLT, Nat.reduceMul, Int.reduceLE, Int.reduceLT, Int.reduceEq, Int.reduceNe, List.flatMap_cons, List.flatMap_nil]
      refine freeze_rule 0 [1, 2, 3, 4, 8] ?_ ?_ ?_
      · simp only [↓wt, wu, wk0, wk1, wk2, wk3, Nat.reduceAdd, Nat.reduceEqDiff, Nat.reduceLeDiff, Nat.reduceLT, Nat.reduceMul, Int.reduceLE, Int.reduceLT, Int.reduceEq, Int.reduceNe, List.flatMap_cons, List.flatMap_nil]
      · simp only [↓wt, wu, wk0, wk1, wk2, wk3, Nat.reduceAdd, Nat.reduceEqDiff, Nat.reduceLeDiff, Nat.reduceLT, Nat.reduceMul, Int.reduceLE, Int.reduceLT, Int.reduceEq, Int.reduceNe, List.flatMap_cons, List.flatMap_nil]
        exact fun _ => pure_tv (t := t) rfl rfl rfl rfl
      simp only [↓wt, wu, wk0, wk1, wk2, wk3, Nat.reduceAdd, Nat.reduceEqDiff, Nat.reduceLeDiff, Nat.reduceLT, Nat.reduceMul, Int.reduceLE, Int.reduceLT, Int.reduceEq, Int.reduceNe, List.flatMap_cons, List.flatMap_nil]
      refine frz_after ?_
      refine draw_rule4 tabOk mixed [(5, 1), (5, 1), (27, 0)] [5, 0, 0, 0, 1, 5, 0, 0, 0, 1, 1, 0, 0, 1, 4, 1] [1, 0, 0, 0, 0, 2, 0, 0, 0, 0, 0, 0, 0, 0, 3, 0] [[], [], [1], [1, 2], [0, 1, 2, 3], [], [], [6], [6, 7], [0, 1, 2, 3, 4, 5, 6, 7, 8], [0, 1, 2, 3, 4, 5, 6, 7, 8, 9], [], [11], [0, 1, 2, 3, 4, 5, 6, 7, 8, 9, 10, 11, 12], [], [0, 1, 2, 3, 4, 5, 6, 7, 8, 9, 10, 11, 12, 13, 14]] (by kernel_rfl) (by kernel_rfl) ?_
      simp only [↓wt, wu, wk0, wk1, wk2, wk3, Nat.reduceAdd, Nat.reduceEqDiff, Nat.reduceLeDiff, Nat.reduceLT, Nat.reduceMul, Int.reduceLE, Int.reduceLT, Int.reduceEq, Int.reduceNe, List.flatMap_cons, List.flatMap_nil, d4_nil, d4_op, d4_opg, d4_p0, d4_p, d4_0, d4_1, d4_2, d4_3, d4_p0', d4_p3, d4_alloc, d4_lit, resv, pdB, ovP]
      refine d4_heavyX (fun β => by simp only [↓wt, wu, wk0, wk1, wk2, wk3, Nat.reduceAdd, Nat.reduceEqDiff, Nat.reduceLeDiff, Nat.reduceLT, Nat.reduceMul, Int.reduceLE, Int.reduceLT, Int.reduceEq, Int.reduceNe, List.flatMap_cons, List.flatMap_nil, d4_nil, d4_op, d4_opg, d4_p0, d4_p, d4_0, d4_1, d4_2, d4_3, d4_p0', d4_p3, d4_alloc, d4_lit, resv, pdB, ovP]; (repeat (first | refine And.intro (by omega) ?_ | refine And.intro (pureB _) ?_ | refine And.intro ⟨pureB _, pureB _⟩ ?_)); exact ⟨rfl, rfl⟩) (fun β => by rfl) ?_
      simp only [↓wt, wu, wk0, wk1, wk2, wk3, Nat.reduceAdd, Nat.reduceEqDiff, Nat.reduceLeDiff, Nat.reduceLT, Nat.reduceMul, Int.reduceLE, Int.reduceLT, Int.reduceEq, Int.reduceNe, List.flatMap_cons, List.flatMap_nil, d4_nil, d4_op, d4_opg, d4_p0, d4_p, d4_0, d4_1, d4_2, d4_3, d4_p0', d4_p3, d4_alloc, d4_lit, resv, pdB, ovP]
      refine d4_heavyX (fun β => by simp only [↓wt, wu, wk0, wk1, wk2, wk3, Nat.reduceAdd, Nat.reduceEqDiff, Nat.reduceLeDiff, Nat.reduceLT, Nat.reduceMul, Int.reduceLE, Int.reduceLT, Int.reduceEq, Int.reduceNe, List.flatMap_cons, List.flatMap_nil, d4_nil, d4_op, d4_opg, d4_p0, d4_p, d4_0, d4_1, d4_2, d4_3, d4_p0', d4_p3, d4_alloc, d4_lit, resv, pdB, ovP]; (repeat (first | refine And.intro (by omega) ?_ | refine And.intro (pureB _) ?_ | refine And.intro ⟨pureB _, pureB _⟩ ?_)); exact ⟨rfl, rfl⟩) (fun β => by rfl) ?_
      simp only [↓wt, wu, wk0, wk1, wk2, wk3, Nat.reduceAdd, Nat.reduceEqDiff, Nat.reduceLeDiff, Nat.reduceLT, Nat.reduceMul, Int.reduceLE, Int.reduceLT, Int.reduceEq, Int.reduceNe, List.flatMap_cons, List.flatMap_nil, d4_nil, d4_op, d4_opg, d4_p0, d4_p, d4_0, d4_1, d4_2, d4_3, d4_p0', d4_p3, d4_alloc, d4_lit, resv, pdB, ovP]
      refine d4_heavyX (fun β => by simp only [↓wt, wu, wk0, wk1, wk2, wk3, Nat.reduceAdd, Nat.reduceEqDiff, Nat.reduceLeDiff, Nat.reduceLT, Nat.reduceMul, Int.reduceLE, Int.reduceLT, Int.reduceEq, Int.reduceNe, List.flatMap_cons, List.flatMap_nil, d4_nil, d4_op, d4_opg, d4_p0, d4_p, d4_0, d4_1, d4_2, d4_3, d4_p0', d4_p3, d4_alloc, d4_lit, resv, pdB, ovP]; (repeat (first | refine And.intro (by omega) ?_ | refine And.intro (pureB _) ?_ | refine And.intro ⟨pureB _, pureB _⟩ ?_)); exact ⟨rfl, rfl⟩) (fun β => by rfl) ?_
      simp only [↓wt, wu, wk0, wk1, wk2, wk3, Nat.reduceAdd, Nat.reduceEqDiff, Nat.reduceLeDiff, Nat.reduceLT, Nat.reduceMul, Int.reduceLE, Int.reduceLT, Int.reduceEq, Int.reduceNe, List.flatMap_cons, List.flatMap_nil, d4_nil, d4_op, d4_opg, d4_p0, d4_p, d4_0, d4_1, d4_2, d4_3, d4_p0', d4_p3, d4_alloc, d4_lit, resv, pdB, ovP]
      refine d4_heavyX (fun β => by simp only [↓wt, wu, wk0, wk1, wk2, wk3, Nat.reduceAdd, Nat.reduceEqDiff, Nat.reduceLeDiff, Nat.reduceLT, Nat.reduceMul, Int.reduceLE, Int.reduceLT, Int.reduceEq, Int.reduceNe, List.flatMap_cons, List.flatMap_nil, d4_nil, d4_op, d4_opg, d4_p0, d4_p, d4_0, d4_1, d4_2, d4_3, d4_p0', d4_p3, d4_alloc, d4_lit, resv, pdB, ovP]; (repeat (first | refine And.intro (by omega) ?_ | refine And.intro (pureB _) ?_ | refine And.intro ⟨pureB _, pureB _⟩ ?_)); exact ⟨rfl, rfl⟩) (fun β => by rfl) ?_
      simp only [↓wt, wu, wk0, wk1, wk2, wk3, Nat.reduceAdd, Nat.reduceEqDiff, Nat.reduceLeDiff, Nat.reduceLT, Nat.reduceMul, Int.reduceLE, Int.reduceLT, Int.reduceEq, Int.reduceNe, List.flatMap_cons, List.flatMap_nil, d4_nil, d4_op, d4_opg, d4_p0, d4_p, d4_0, d4_1, d4_2, d4_3, d4_p0', d4_p3, d4_alloc, d4_lit, resv, pdB, ovP]
      refine d_heavyX (by simp only [↓wt, wu, wk0, wk1, wk2, wk3, Nat.reduceAdd, Nat.reduceEqDiff, Nat.reduceLeDiff, Nat.reduceLT, Nat.reduceMul, Int.reduceLE, Int.reduceLT, Int.reduceEq, Int.reduceNe, List.flatMap_cons, List.flatMap_nil]; (repeat (first | refine And.intro (by omega) ?_ | refine And.intro (pureB _) ?_ | refine And.intro ⟨pureB _, pureB _⟩ ?_)); exact ⟨rfl, rfl⟩) ?_
      simp only [↓wt, wu, wk0, wk1, wk2, wk3, Nat.reduceAdd, Nat.reduceEqDiff, Nat.reduceLeDiff, Nat.reduceLT, Nat.reduceMul, Int.reduceLE, Int.reduceLT, Int.reduceEq, Int.reduceNe, List.flatMap_cons, List.flatMap_nil, d4_nil, d4_op, d4_opg, d4_p0, d4_p, d4_0, d4_1, d4_2, d4_3, d4_p0', d4_p3, d4_alloc, d4_lit, resv, pdB, ovP]
      have ht : t.Fit := ⟨by unfold Fit8; omega, by unfold Fit8; omega, by unfold Fit8; omega, by unfold Fit8; omega⟩
      have w1 := write_call t sp x ht (by omega)
      have w2 := rwrite_call t sp x ht (by omega)
      refine .step 3 [1, 2, 3, 4, 8, 9] ?_ ?_ (.done ?_)
      · simp only [↓wt, wu, wk0, wk1, wk2, wk3, Nat.reduceAdd, Nat.reduceEqDiff, Nat.reduceLeDiff, Nat.reduceLT, Nat.reduceMul, Int.reduceLE, Int.reduceLT, Int.reduceEq, Int.reduceNe, List.flatMap_cons, List.flatMap_nil]
      · simp only [↓wt, wu, wk0, wk1, wk2, wk3, Nat.reduceAdd, Nat.reduceEqDiff, Nat.reduceLeDiff, Nat.reduceLT, Nat.reduceMul, Int.reduceLE, Int.reduceLT, Int.reduceEq, Int.reduceNe, List.flatMap_cons, List.flatMap_nil]
        exact fun _ => pure_tv (t := t) rfl rfl rfl rfl
      simp only [↓wt, wu, wk0, wk1, wk2, wk3, Nat.reduceAdd, Nat.reduceEqDiff, Nat.reduceLeDiff, Nat.reduceLT, Nat.reduceMul, Int.reduceLE, Int.reduceLT, Int.reduceEq, Int.reduceNe, List.flatMap_cons, List.flatMap_nil]
      refine icall_drop [] w1 ⟨arg_tvE rfl rfl rfl rfl, arg_c, arg_l (pureB _), trivial⟩ okR_wr ?_
      simp only [↓wt, wu, wk0, wk1, wk2, wk3, Nat.reduceAdd, Nat.reduceEqDiff, Nat.reduceLeDiff, Nat.reduceLT, Nat.reduceMul, Int.reduceLE, Int.reduceLT, Int.reduceEq, Int.reduceNe, List.flatMap_cons, List.flatMap_nil, tv, TapeA, Bs]
      refine icall_drop [] w2 ⟨arg_tvE rfl rfl rfl rfl, arg_c, arg_l (pureB _), trivial⟩ okR_wr ?_
      simp only [↓wt, wu, wk0, wk1, wk2, wk3, Nat.reduceAdd, Nat.reduceEqDiff, Nat.reduceLeDiff, Nat.reduceLT, Nat.reduceMul, Int.reduceLE, Int.reduceLT, Int.reduceEq, Int.reduceNe, List.flatMap_cons, List.flatMap_nil, tv, TapeA, Bs]
      have m1 := tmay_call t.a t.b t.c t.d ht.1 ht.2.1 ht.2.2.1 ht.2.2.2
      have m2 := rmay_call t.a t.b t.c t.d ht.1 ht.2.1 ht.2.2.1 ht.2.2.2
      generalize decide (total t.a t.b t.c t.d ≤ 65536) = bb at m1 m2
      have c1 := same_call (wrT t sp x)
      have b1 := bytes_call t.a t.b ht.1 ht.2.1
      have b2 := rbytes_call t.a t.b ht.1 ht.2.1
      refine draw_rule tabOk mixed [0, 1, 0, 1, 0, 0, 2, 2, 1, 0, 0, 0, 0, 0, 0, 0, 0, 0, 0, 1, 0, 0, 0, 1, 0, 0, 0] [[], [0], [], [0, 1, 2], [0, 1, 2, 3], [0, 1, 2, 3, 4], [0, 1, 2, 3, 4, 5], [0, 1, 2, 3, 4, 5], [0, 1, 2, 3, 4, 5, 6, 7], [0, 1, 2, 3, 4, 5, 6, 7, 8], [0, 1, 2, 3, 4, 5, 6, 7, 8, 9], [0, 1, 2, 3, 4, 5, 6, 7, 8, 9, 10], [0, 1, 2, 3, 4, 5, 6, 7, 8, 9, 10, 11], [0, 1, 2, 3, 4, 5, 6, 7, 8, 9, 10, 11], [0, 1, 2, 3, 4, 5, 6, 7, 8, 9, 10, 11, 12, 13], [0, 1, 2, 3, 4, 5, 6, 7, 8, 9, 10, 11, 12, 13, 14], [0, 1, 2, 3, 4, 5, 6, 7, 8, 9, 10, 11, 12, 13, 14, 15], [0, 1, 2, 3, 4, 5, 6, 7, 8, 9, 10, 11, 12, 13, 14, 15, 16], [0, 1, 2, 3, 4, 5, 6, 7, 8, 9, 10, 11, 12, 13, 14, 15, 16, 17], [0, 1, 2, 3, 4, 5, 6, 7, 8, 9, 10, 11, 12, 13, 14, 15, 16, 17, 18], [0, 1, 2, 3, 4, 5, 6, 7, 8, 9, 10, 11, 12, 13, 14, 15, 16, 17, 18, 19], [0, 1, 2, 3, 4, 5, 6, 7, 8, 9, 10, 11, 12, 13, 14, 15, 16], [0, 1, 2, 3, 4, 5, 6, 7, 8, 9, 10, 11, 12, 13, 14, 15, 16, 21], [0, 1, 2, 3, 4, 5, 6, 7, 8, 9, 10, 11, 12, 13, 14, 15, 16, 17, 18, 19, 21, 22], [0, 1, 2, 3, 4, 5, 6, 7, 8, 9, 10, 11, 12, 13, 14, 15, 16, 17, 18, 19, 21, 22, 23], [0, 1, 2, 3, 4, 5, 6, 7, 8, 9, 10, 11, 12, 13, 14, 15, 16, 17, 18, 19, 20, 21, 22, 23, 24], [0, 1, 2, 3, 4, 5, 6, 7, 8, 9, 10, 11, 12, 13, 14, 15, 16, 17, 18, 19, 20, 21, 22, 23, 24, 25]] (by kernel_rfl) ?_
      simp only [↓wt, wu, wk0, wk1, wk2, wk3, Nat.reduceAdd, Nat.reduceEqDiff, Nat.reduceLeDiff, Nat.reduceLT, Nat.reduceMul, Int.reduceLE, Int.reduceLT, Int.reduceEq, Int.reduceNe, List.flatMap_cons, List.flatMap_nil]
      refine d_heavyC (icall_drop [] m1 ⟨arg_tape, trivial⟩ (.c _) ⟨rfl, rfl⟩) ?_
      simp only [↓wt, wu, wk0, wk1, wk2, wk3, Nat.reduceAdd, Nat.reduceEqDiff, Nat.reduceLeDiff, Nat.reduceLT, Nat.reduceMul, Int.reduceLE, Int.reduceLT, Int.reduceEq, Int.reduceNe, List.flatMap_cons, List.flatMap_nil]
      refine d_heavyC (icall_drop [] m2 ⟨arg_tape, trivial⟩ (.c _) ⟨rfl, rfl⟩) ?_
      simp only [↓wt, wu, wk0, wk1, wk2, wk3, Nat.reduceAdd, Nat.reduceEqDiff, Nat.reduceLeDiff, Nat.reduceLT, Nat.reduceMul, Int.reduceLE, Int.reduceLT, Int.reduceEq, Int.reduceNe, List.flatMap_cons, List.flatMap_nil, bne_self_eq_false]
      refine d_heavyC (icall_drop [] c1 ⟨arg_tvE rfl rfl rfl rfl, arg_tvE rfl rfl rfl rfl, trivial⟩ (.c _) ⟨rfl, rfl⟩) ?_
      simp only [↓wt, wu, wk0, wk1, wk2, wk3, Nat.reduceAdd, Nat.reduceEqDiff, Nat.reduceLeDiff, Nat.reduceLT, Nat.reduceMul, Int.reduceLE, Int.reduceLT, Int.reduceEq, Int.reduceNe, List.flatMap_cons, List.flatMap_nil, bne_self_eq_false]
      refine d_heavyC (icall_drop [] b1 ⟨arg_area, trivial⟩ okR_Bs ⟨rfl, rfl⟩) ?_
      simp only [↓wt, wu, wk0, wk1, wk2, wk3, Nat.reduceAdd, Nat.reduceEqDiff, Nat.reduceLeDiff, Nat.reduceLT, Nat.reduceMul, Int.reduceLE, Int.reduceLT, Int.reduceEq, Int.reduceNe, List.flatMap_cons, List.flatMap_nil, Bs, bne_self_eq_false]
      refine d_heavyC (icall_drop [] b2 ⟨arg_area, trivial⟩ okR_Bs ⟨rfl, rfl⟩) ?_
      simp only [↓wt, wu, wk0, wk1, wk2, wk3, Nat.reduceAdd, Nat.reduceEqDiff, Nat.reduceLeDiff, Nat.reduceLT, Nat.reduceMul, Int.reduceLE, Int.reduceLT, Int.reduceEq, Int.reduceNe, List.flatMap_cons, List.flatMap_nil, Bs, bne_self_eq_false]
      have s1 := sync_call t sp ht
      have s2 := rsync_call t sp ht
      have s3 := same_call (syT t sp)
      have t1 := turn_call t
      have t2 := rturn_call t
      have t3 := same_call (tuT t)
      have u1 := wipe_call t
      have u2 := rwipe_call t
      have u3 := same_call (wiT t)
      have v1 := cut_call t n h1 h2 ht
      have v2 := rcut_call t n ht
      have v3 := same_call (cuT t n)
      have l1 := lose_call t n h1 h2 ht
      have l2 := rlose_call t.a t.b t.c t.d n ht.1 ht.2.1 ht.2.2.1 ht.2.2.2
      have l3 := same_call (loT t n)
      have e1 := same_call t
      refine draw_rule tabOk mixed [0, 0, 1, 0, 0, 1, 1, 0, 0, 0, 1, 0, 1, 1, 0, 0, 0, 0, 1, 0, 1, 1, 0, 0] [[], [], [0, 1], [], [], [0, 1, 2, 3, 4], [0, 1, 2, 3, 4, 5], [0, 1, 2, 3, 4, 5, 6], [0, 1, 2, 3, 4, 5, 6, 7], [0, 1, 2, 3, 4, 5, 6, 7, 8], [0, 1, 2, 3, 4, 5, 6, 7, 8, 9], [0, 1, 2, 3, 4, 5, 6, 7, 8], [0, 1, 2, 3, 4, 5, 6, 7, 8, 9, 10, 11], [0, 1, 2, 3, 4, 5, 6, 7, 8, 9, 10, 11, 12], [0, 1, 2, 3, 4, 5, 6, 7, 8, 9, 10, 11, 12, 13], [0, 1, 2, 3, 4, 5, 6, 7, 8, 9, 10, 11, 12, 13, 14], [0, 1, 2, 3, 4, 5, 6, 7, 8, 9, 10, 11, 12, 13, 14, 15], [0, 1, 2, 3, 4, 5, 6, 7, 8, 9, 10, 11, 12, 13, 14, 15, 16], [0, 1, 2, 3, 4, 5, 6, 7, 8, 9, 10, 11, 12, 13, 14, 15, 16, 17], [0, 1, 2, 3, 4, 5, 6, 7, 8, 9, 10, 11, 12, 13, 14, 15, 16], [0, 1, 2, 3, 4, 5, 6, 7, 8, 9, 10, 11, 12, 13, 14, 15, 16, 17, 18, 19], [0, 1, 2, 3, 4, 5, 6, 7, 8, 9, 10, 11, 12, 13, 14, 15, 16, 17, 18, 19, 20], [0, 1, 2, 3, 4, 5, 6, 7, 8, 9, 10, 11, 12, 13, 14, 15, 16, 17, 18, 19, 20, 21], [0, 1, 2, 3, 4, 5, 6, 7, 8, 9, 10, 11, 12, 13, 14, 15, 16, 17, 18, 19, 20, 21, 22]] (by kernel_rfl) ?_
      simp only [↓wt, wu, wk0, wk1, wk2, wk3, Nat.reduceAdd, Nat.reduceEqDiff, Nat.reduceLeDiff, Nat.reduceLT, Nat.reduceMul, Int.reduceLE, Int.reduceLT, Int.reduceEq, Int.reduceNe, List.flatMap_cons, List.flatMap_nil]
      refine d_heavyC (icall_drop [] s1 ⟨arg_tvE rfl rfl rfl rfl, arg_c, trivial⟩ okR_tape ⟨rfl, rfl⟩) ?_
      simp only [↓wt, wu, wk0, wk1, wk2, wk3, Nat.reduceAdd, Nat.reduceEqDiff, Nat.reduceLeDiff, Nat.reduceLT, Nat.reduceMul, Int.reduceLE, Int.reduceLT, Int.reduceEq, Int.reduceNe, List.flatMap_cons, List.flatMap_nil, tv, TapeA, Bs]
      refine d_heavyC (icall_drop [] s2 ⟨arg_tvE rfl rfl rfl rfl, arg_c, trivial⟩ okR_tape ⟨rfl, rfl⟩) ?_
      simp only [↓wt, wu, wk0, wk1, wk2, wk3, Nat.reduceAdd, Nat.reduceEqDiff, Nat.reduceLeDiff, Nat.reduceLT, Nat.reduceMul, Int.reduceLE, Int.reduceLT, Int.reduceEq, Int.reduceNe, List.flatMap_cons, List.flatMap_nil, tv, TapeA, Bs]
      refine d_heavyC (icall_drop [] s3 ⟨arg_tvE rfl rfl rfl rfl, arg_tvE rfl rfl rfl rfl, trivial⟩ (.c _) ⟨rfl, rfl⟩) ?_
      simp only [↓wt, wu, wk0, wk1, wk2, wk3, Nat.reduceAdd, Nat.reduceEqDiff, Nat.reduceLeDiff, Nat.reduceLT, Nat.reduceMul, Int.reduceLE, Int.reduceLT, Int.reduceEq, Int.reduceNe, List.flatMap_cons, List.flatMap_nil, tv, TapeA, Bs]
      refine d_heavyC (icall_drop [] t1 ⟨arg_tvE rfl rfl rfl rfl, trivial⟩ okR_tape ⟨rfl, rfl⟩) ?_
      simp only [↓wt, wu, wk0, wk1, wk2, wk3, Nat.reduceAdd, Nat.reduceEqDiff, Nat.reduceLeDiff, Nat.reduceLT, Nat.reduceMul, Int.reduceLE, Int.reduceLT, Int.reduceEq, Int.reduceNe, List.flatMap_cons, List.flatMap_nil, tv, TapeA, Bs]
      refine d_heavyC (icall_drop [] t2 ⟨arg_tvE rfl rfl rfl rfl, trivial⟩ okR_tape ⟨rfl, rfl⟩) ?_
      simp only [↓wt, wu, wk0, wk1, wk2, wk3, Nat.reduceAdd, Nat.reduceEqDiff, Nat.reduceLeDiff, Nat.reduceLT, Nat.reduceMul, Int.reduceLE, Int.reduceLT, Int.reduceEq, Int.reduceNe, List.flatMap_cons, List.flatMap_nil, tv, TapeA, Bs]
      refine d_heavyC (icall_drop [] t3 ⟨arg_tvE rfl rfl rfl rfl, arg_tvE rfl rfl rfl rfl, trivial⟩ (.c _) ⟨rfl, rfl⟩) ?_
      simp only [↓wt, wu, wk0, wk1, wk2, wk3, Nat.reduceAdd, Nat.reduceEqDiff, Nat.reduceLeDiff, Nat.reduceLT, Nat.reduceMul, Int.reduceLE, Int.reduceLT, Int.reduceEq, Int.reduceNe, List.flatMap_cons, List.flatMap_nil, tv, TapeA, Bs]
      refine d_heavyC (icall_drop [] u1 ⟨arg_tvE rfl rfl rfl rfl, trivial⟩ okR_tape ⟨rfl, rfl⟩) ?_
      simp only [↓wt, wu, wk0, wk1, wk2, wk3, Nat.reduceAdd, Nat.reduceEqDiff, Nat.reduceLeDiff, Nat.reduceLT, Nat.reduceMul, Int.reduceLE, Int.reduceLT, Int.reduceEq, Int.reduceNe, List.flatMap_cons, List.flatMap_nil, tv, TapeA, Bs]
      refine d_heavyC (icall_drop [] u2 ⟨arg_tvE rfl rfl rfl rfl, trivial⟩ okR_tape ⟨rfl, rfl⟩) ?_
      simp only [↓wt, wu, wk0, wk1, wk2, wk3, Nat.reduceAdd, Nat.reduceEqDiff, Nat.reduceLeDiff, Nat.reduceLT, Nat.reduceMul, Int.reduceLE, Int.reduceLT, Int.reduceEq, Int.reduceNe, List.flatMap_cons, List.flatMap_nil, tv, TapeA, Bs]
      refine d_heavyC (icall_drop [] u3 ⟨arg_tvE rfl rfl rfl rfl, arg_tvE rfl rfl rfl rfl, trivial⟩ (.c _) ⟨rfl, rfl⟩) ?_
      simp only [↓wt, wu, wk0, wk1, wk2, wk3, Nat.reduceAdd, Nat.reduceEqDiff, Nat.reduceLeDiff, Nat.reduceLT, Nat.reduceMul, Int.reduceLE, Int.reduceLT, Int.reduceEq, Int.reduceNe, List.flatMap_cons, List.flatMap_nil, tv, TapeA, Bs]
      refine draw_rule tabOk mixed [0, 0, 1, 0, 0, 1, 1, 0, 0, 0, 1, 0, 0, 1, 1, 0, 0, 0, 0, 1, 0, 0] [[], [], [0, 1], [], [], [0, 1, 2, 3, 4], [0, 1, 2, 3, 4, 5], [0, 1, 2, 3, 4, 5, 6], [0, 1, 2, 3, 4, 5, 6, 7], [0, 1, 2, 3, 4, 5, 6, 7], [0, 1, 2, 3, 4, 5, 6, 7, 8, 9], [0, 1, 2, 3, 4, 5, 6, 7], [0, 1, 2, 3, 4, 5, 6, 7], [0, 1, 2, 3, 4, 5, 6, 7, 8, 9, 10, 11, 12], [0, 1, 2, 3, 4, 5, 6, 7, 8, 9, 10, 11, 12, 13], [0, 1, 2, 3, 4, 5, 6, 7, 8, 9, 10, 11, 12, 13, 14], [0, 1, 2, 3, 4, 5, 6, 7, 8, 9, 10, 11, 12, 13, 14, 15], [0, 1, 2, 3, 4, 5, 6, 7, 8, 9, 10, 11, 12, 13, 14, 15, 16], [0, 1, 2, 3, 4, 5, 6, 7, 8, 9, 10, 11, 12, 13, 14, 15, 16], [0, 1, 2, 3, 4, 5, 6, 7, 8, 9, 10, 11, 12, 13, 14, 15, 16, 17, 18], [0, 1, 2, 3, 4, 5, 6, 7, 8, 9, 10, 11, 12, 13, 14, 15, 16, 17, 18, 19], [0, 1, 2, 3, 4, 5, 6, 7, 8, 9, 10, 11, 12, 13, 14, 15, 16, 17, 18, 19, 20]] (by kernel_rfl) ?_
      simp only [↓wt, wu, wk0, wk1, wk2, wk3, Nat.reduceAdd, Nat.reduceEqDiff, Nat.reduceLeDiff, Nat.reduceLT, Nat.reduceMul, Int.reduceLE, Int.reduceLT, Int.reduceEq, Int.reduceNe, List.flatMap_cons, List.flatMap_nil]
      refine d_heavyC (icall_drop [] v1 ⟨arg_tvE rfl rfl rfl rfl, arg_c, trivial⟩ okR_tape ⟨rfl, rfl⟩) ?_
      simp only [↓wt, wu, wk0, wk1, wk2, wk3, Nat.reduceAdd, Nat.reduceEqDiff, Nat.reduceLeDiff, Nat.reduceLT, Nat.reduceMul, Int.reduceLE, Int.reduceLT, Int.reduceEq, Int.reduceNe, List.flatMap_cons, List.flatMap_nil, tv, TapeA, Bs]
      refine d_heavyC (icall_drop [] v2 ⟨arg_tvE rfl rfl rfl rfl, arg_c, trivial⟩ okR_tape ⟨rfl, rfl⟩) ?_
      simp only [↓wt, wu, wk0, wk1, wk2, wk3, Nat.reduceAdd, Nat.reduceEqDiff, Nat.reduceLeDiff, Nat.reduceLT, Nat.reduceMul, Int.reduceLE, Int.reduceLT, Int.reduceEq, Int.reduceNe, List.flatMap_cons, List.flatMap_nil, tv, TapeA, Bs]
      refine d_heavyC (icall_drop [] v3 ⟨arg_tvE rfl rfl rfl rfl, arg_tvE rfl rfl rfl rfl, trivial⟩ (.c _) ⟨rfl, rfl⟩) ?_
      simp only [↓wt, wu, wk0, wk1, wk2, wk3, Nat.reduceAdd, Nat.reduceEqDiff, Nat.reduceLeDiff, Nat.reduceLT, Nat.reduceMul, Int.reduceLE, Int.reduceLT, Int.reduceEq, Int.reduceNe, List.flatMap_cons, List.flatMap_nil, tv, TapeA, Bs]
      refine d_heavyC (icall_drop [] l1 ⟨arg_tvE rfl rfl rfl rfl, arg_c, trivial⟩ okR_tape ⟨rfl, rfl⟩) ?_
      simp only [↓wt, wu, wk0, wk1, wk2, wk3, Nat.reduceAdd, Nat.reduceEqDiff, Nat.reduceLeDiff, Nat.reduceLT, Nat.reduceMul, Int.reduceLE, Int.reduceLT, Int.reduceEq, Int.reduceNe, List.flatMap_cons, List.flatMap_nil, tv, TapeA, Bs]
      refine d_heavyC (icall_drop [] l2 ⟨arg_tvE rfl rfl rfl rfl, arg_c, trivial⟩ okR_tape ⟨rfl, rfl⟩) ?_
      simp only [↓wt, wu, wk0, wk1, wk2, wk3, Nat.reduceAdd, Nat.reduceEqDiff, Nat.reduceLeDiff, Nat.reduceLT, Nat.reduceMul, Int.reduceLE, Int.reduceLT, Int.reduceEq, Int.reduceNe, List.flatMap_cons, List.flatMap_nil, tv, TapeA, Bs]
      refine d_heavyC (icall_drop [] l3 ⟨arg_tvE rfl rfl rfl rfl, arg_tvE rfl rfl rfl rfl, trivial⟩ (.c _) ⟨rfl, rfl⟩) ?_
      simp only [↓wt, wu, wk0, wk1, wk2, wk3, Nat.reduceAdd, Nat.reduceEqDiff, Nat.reduceLeDiff, Nat.reduceLT, Nat.reduceMul, Int.reduceLE, Int.reduceLT, Int.reduceEq, Int.reduceNe, List.flatMap_cons, List.flatMap_nil, tv, TapeA, Bs]
      refine d_heavyC (icall_drop [] e1 ⟨arg_tvE rfl rfl rfl rfl, arg_tvE rfl rfl rfl rfl, trivial⟩ (.c _) ⟨rfl, rfl⟩) ?_
      simp only [↓wt, wu, wk0, wk1, wk2, wk3, Nat.reduceAdd, Nat.reduceEqDiff, Nat.reduceLeDiff, Nat.reduceLT, Nat.reduceMul, Int.reduceLE, Int.reduceLT, Int.reduceEq, Int.reduceNe, List.flatMap_cons, List.flatMap_nil, Try.results5]
      exact exp_c
end Go.Ab
