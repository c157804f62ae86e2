/- Store: the document's: written, saved, torn. -/
import Derived.Test.YtdnhojfkjgggbaaDoorSt3
set_option linter.unusedSimpArgs false
set_option linter.unusedVariables false
set_option linter.constructorNameAsVariable false
set_option maxRecDepth 100000
namespace Go.Ab
open Go Go.Proofs Go.RowKit

set_option maxHeartbeats 4000000 in
theorem written_call (t : Tape4) (x : List UInt8) (m : Int) (ht : t.Lt) (hx : x.length ≤ 100000) : PCall Tryd.prog 42 [tv t, Bs x, .c (.int .i64 m)] (begV t x m) := by
  have hfl := frL_len x
  have hpl := putL_len10 (n := x.length) (by omega)
  have ho := opB_iff (t := t)
  have hno := opB_no (t := t)
  have m0 := frput_call [] x (by simp) (by omega)
  rw [List.nil_append] at m0
  have hf := ht.fit
  have m1 := rmay_call t.a t.b t.c t.d hf.1 hf.2.1 hf.2.2.1 hf.2.2.2
  change PCall _ _ _ (.c (.bool (decide (t.n ≤ 65536)))) at m1
  have m2 := ropen_call t ht
  have m3 := sameG_call t (opT t)
  have hs := sameT_iff (t := t) (u := opT t)
  obtain ⟨fx, hfx⟩ : ∃ f, f = frL x := ⟨_, rfl⟩
  rw [← hfx] at hfl m0
  have hb : begR t x m = if opB t = false then (t, false, 1) else if m < (fx.length : Int) then (t, false, 6) else
    if wrC t fx ≠ 0 then (t, false, 6) else
      (wrT t (decide (m < ((t.a.length + fx.length : Nat) : Int))) fx, decide (m < ((t.a.length + fx.length : Nat) : Int)), 0) := by rw [begR, hfx]
  obtain ⟨h1, h2, h3, h4⟩ := ht
  refine pcall_body tabOk Tryd.func42 rfl rfl (by rw [Tryd.ntmps42]; simp) ?_
  simp only [Tryd.ntmps42, tv, TapeA, Bs]
  simp only [↓wt, wu, wk0, wk1, wk2, wk3, Nat.reduceAdd, Nat.reduceEqDiff, Nat.reduceLeDiff, Nat.reduceLT, Nat.reduceMul, Int.reduceLE, Int.reduceLT, Int.reduceEq, Int.reduceNe, wk4, laidS, keepS]
  refine draw_rule tabOk mixed [2, 3, 0, 0, 2, 2, 3, 3, 0, 0] [[], [0], [0, 1], [0, 1, 2], [0, 1, 2, 3], [0, 1, 2, 3], [0, 1, 2, 3, 5], [0, 1, 2, 3, 4, 5, 6], [0, 1, 2, 3, 4, 5, 6, 7], [0, 1, 2, 3, 4, 5, 6, 7, 8]] (by kernel_rfl) ?_
  simp only [↓wt, wu, wk0, wk1, wk2, wk3, Nat.reduceAdd, Nat.reduceEqDiff, Nat.reduceLeDiff, Nat.reduceLT, Nat.reduceMul, Int.reduceLE, Int.reduceLT, Int.reduceEq, Int.reduceNe, wk4, laidS, keepS]
  refine d_pureC (fun M0 => icall_drop [] m1 ⟨arg_tape, trivial⟩ (.c _) ⟨rfl, rfl⟩) ?_
  by_cases f1 : t.n ≤ 65536
  · have k1 : decide (t.n ≤ 65536) = true := decide_eq_true f1
    simp only [↓wt, wu, wk0, wk1, wk2, wk3, Nat.reduceAdd, Nat.reduceEqDiff, Nat.reduceLeDiff, Nat.reduceLT, Nat.reduceMul, Int.reduceLE, Int.reduceLT, Int.reduceEq, Int.reduceNe, wk4, laidS, keepS, k1]
    refine d_pureC (r := tv (opT t)) (fun M0 => icall_drop [] m2 ⟨arg_tvE rfl rfl rfl rfl, trivial⟩ okR_tape ⟨rfl, rfl⟩) ?_
    simp only [↓wt, wu, wk0, wk1, wk2, wk3, Nat.reduceAdd, Nat.reduceEqDiff, Nat.reduceLeDiff, Nat.reduceLT, Nat.reduceMul, Int.reduceLE, Int.reduceLT, Int.reduceEq, Int.reduceNe, wk4, laidS, keepS, tv, TapeA, Bs]
    refine d_pureC (fun M0 => icall_drop [] m3 ⟨arg_tvE rfl rfl rfl rfl, arg_tvE rfl rfl rfl rfl, trivial⟩ (.c _) ⟨rfl, rfl⟩) ?_
    cases f2 : sameT t (opT t) with
    | false =>
      have f3 := hno fun h => by rw [hs.2 h.2] at f2; exact absurd f2 (by decide)
      simp only [↓wt, wu, wk0, wk1, wk2, wk3, Nat.reduceAdd, Nat.reduceEqDiff, Nat.reduceLeDiff, Nat.reduceLT, Nat.reduceMul, Int.reduceLE, Int.reduceLT, Int.reduceEq, Int.reduceNe, wk4, laidS, keepS, Tryd.results42]
      refine exp_beg (u := t) ?_
      rw [hb, if_pos f3]
    | true =>
      have f3 := ho.2 ⟨f1, hs.1 f2⟩
      rw [if_neg (by rw [f3]; decide)] at hb
      simp only [↓wt, wu, wk0, wk1, wk2, wk3, Nat.reduceAdd, Nat.reduceEqDiff, Nat.reduceLeDiff, Nat.reduceLT, Nat.reduceMul, Int.reduceLE, Int.reduceLT, Int.reduceEq, Int.reduceNe, wk4, laidS, keepS]
      refine icall_drop [] m0 ⟨arg_nil, arg_l (pureB _), trivial⟩ okR_Bs ?_
      have e5 : IntKind.i64.wrap ((t.a.length : Int) + (fx.length : Int)) = ((t.a.length + fx.length : Nat) : Int) := by rw [wrap_i64 (by omega) (by omega)]; omega
      by_cases g2 : (fx.length : Int) > m
      · have d2 : decide ((fx.length : Int) > m) = true := decide_eq_true g2
        simp only [↓wt, wu, wk0, wk1, wk2, wk3, Nat.reduceAdd, Nat.reduceEqDiff, Nat.reduceLeDiff, Nat.reduceLT, Nat.reduceMul, Int.reduceLE, Int.reduceLT, Int.reduceEq, Int.reduceNe, wk4, laidS, keepS, Bs, d2, Tryd.results42]
        refine exp_beg (u := t) ?_
        rw [hb, if_pos g2]
      have d2 : decide ((fx.length : Int) > m) = false := decide_eq_false g2
      rw [if_neg g2] at hb
      simp only [↓wt, wu, wk0, wk1, wk2, wk3, Nat.reduceAdd, Nat.reduceEqDiff, Nat.reduceLeDiff, Nat.reduceLT, Nat.reduceMul, Int.reduceLE, Int.reduceLT, Int.reduceEq, Int.reduceNe, wk4, laidS, keepS, Bs, d2, e5]
      by_cases g3 : ((t.a.length + fx.length : Nat) : Int) > m
      · have d3 : decide (((t.a.length + fx.length : Nat) : Int) > m) = true := decide_eq_true g3
        rw [show decide (m < ((t.a.length + fx.length : Nat) : Int)) = true from d3] at hb
        have w1 := rwrite_call t true fx hf (by omega)
        simp only [↓wt, wu, wk0, wk1, wk2, wk3, Nat.reduceAdd, Nat.reduceEqDiff, Nat.reduceLeDiff, Nat.reduceLT, Nat.reduceMul, Int.reduceLE, Int.reduceLT, Int.reduceEq, Int.reduceNe, wk4, laidS, keepS, d3]
        refine icall_drop [] w1 ⟨arg_tvE rfl rfl rfl rfl, arg_c, arg_l (pureB _), trivial⟩ okR_wr ?_
        simp only [↓wt, wu, wk0, wk1, wk2, wk3, Nat.reduceAdd, Nat.reduceEqDiff, Nat.reduceLeDiff, Nat.reduceLT, Nat.reduceMul, Int.reduceLE, Int.reduceLT, Int.reduceEq, Int.reduceNe, wk4, laidS, keepS, tv, TapeA, Bs]
        by_cases g4 : wrC t fx = 0
        · have k4 : decide (wrC t fx = 0) = true := decide_eq_true g4
          rw [if_neg (by simp [g4])] at hb
          simp only [↓wt, wu, wk0, wk1, wk2, wk3, Nat.reduceAdd, Nat.reduceEqDiff, Nat.reduceLeDiff, Nat.reduceLT, Nat.reduceMul, Int.reduceLE, Int.reduceLT, Int.reduceEq, Int.reduceNe, wk4, laidS, keepS, k4, Tryd.results42]
          exact exp_beg (u := wrT t true fx) hb
        · have k4 : decide (wrC t fx = 0) = false := decide_eq_false g4
          rw [if_pos g4] at hb
          simp only [↓wt, wu, wk0, wk1, wk2, wk3, Nat.reduceAdd, Nat.reduceEqDiff, Nat.reduceLeDiff, Nat.reduceLT, Nat.reduceMul, Int.reduceLE, Int.reduceLT, Int.reduceEq, Int.reduceNe, wk4, laidS, keepS, k4, Tryd.results42]
          exact exp_beg (u := t) hb
      · have d3 : decide (((t.a.length + fx.length : Nat) : Int) > m) = false := decide_eq_false g3
        rw [show decide (m < ((t.a.length + fx.length : Nat) : Int)) = false from d3] at hb
        have w1 := rwrite_call t false fx hf (by omega)
        simp only [↓wt, wu, wk0, wk1, wk2, wk3, Nat.reduceAdd, Nat.reduceEqDiff, Nat.reduceLeDiff, Nat.reduceLT, Nat.reduceMul, Int.reduceLE, Int.reduceLT, Int.reduceEq, Int.reduceNe, wk4, laidS, keepS, d3]
        refine icall_drop [] w1 ⟨arg_tvE rfl rfl rfl rfl, arg_c, arg_l (pureB _), trivial⟩ okR_wr ?_
        simp only [↓wt, wu, wk0, wk1, wk2, wk3, Nat.reduceAdd, Nat.reduceEqDiff, Nat.reduceLeDiff, Nat.reduceLT, Nat.reduceMul, Int.reduceLE, Int.reduceLT, Int.reduceEq, Int.reduceNe, wk4, laidS, keepS, tv, TapeA, Bs]
        by_cases g4 : wrC t fx = 0
        · have k4 : decide (wrC t fx = 0) = true := decide_eq_true g4
          rw [if_neg (by simp [g4])] at hb
          simp only [↓wt, wu, wk0, wk1, wk2, wk3, Nat.reduceAdd, Nat.reduceEqDiff, Nat.reduceLeDiff, Nat.reduceLT, Nat.reduceMul, Int.reduceLE, Int.reduceLT, Int.reduceEq, Int.reduceNe, wk4, laidS, keepS, k4, Tryd.results42]
          exact exp_beg (u := wrT t false fx) hb
        · have k4 : decide (wrC t fx = 0) = false := decide_eq_false g4
          rw [if_pos g4] at hb
          simp only [↓wt, wu, wk0, wk1, wk2, wk3, Nat.reduceAdd, Nat.reduceEqDiff, Nat.reduceLeDiff, Nat.reduceLT, Nat.reduceMul, Int.reduceLE, Int.reduceLT, Int.reduceEq, Int.reduceNe, wk4, laidS, keepS, k4, Tryd.results42]
          exact exp_beg (u := t) hb
  · have k1 : decide (t.n ≤ 65536) = false := decide_eq_false f1
    simp only [↓wt, wu, wk0, wk1, wk2, wk3, Nat.reduceAdd, Nat.reduceEqDiff, Nat.reduceLeDiff, Nat.reduceLT, Nat.reduceMul, Int.reduceLE, Int.reduceLT, Int.reduceEq, Int.reduceNe, wk4, laidS, keepS, k1, Tryd.results42]
    refine exp_beg (u := t) ?_
    rw [hb, if_pos (hno fun h => f1 h.1)]
end Go.Ab
