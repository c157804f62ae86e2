/- Rows: what they say. -/
import Derived.Test.YtblnakmeaokemacTab
set_option linter.unusedSimpArgs false
set_option linter.unusedVariables false
set_option maxRecDepth 100000
namespace Go.Ab
open Go Go.Proofs

/-- A row, as it comes in. -/
def RowA (i u : Int) (o : List Int) : AV := .g [.c (.int .i64 i), .c (.int .i64 u), .l 1 (o.map encI)]
def rs_I (i u j v : Int) (o p : List Int) (k : Nat) : ASt :=
  ⟨[(2, .p 0 0 0 1), (3, .p 1 0 0 1), (4, .c (.bool false)), (5, .c (.int .i64 k))], ⟨[(0, ⟨47, 3, [RowA i u o]⟩), (1, ⟨47, 3, [RowA j v p]⟩)], 2⟩, 45⟩
theorem rsame_call (i u j v : Int) (o p : List Int) (hl : o.length < 1000000000) : PCall Try.prog 32 [RowA i u o, RowA j v p] (.c (.bool (decide (i = j ∧ u = v ∧ o = p)))) := by
  refine pcall_body tabOk Try.func32 rfl rfl (by rw [Try.ntmps32]; simp) ?_
  simp only [Try.ntmps32, RowA]
  cases f1 : decide ((o.length : Int) = (p.length : Int)) with
  | false =>
    have hr : decide (i = j ∧ u = v ∧ o = p) = false := decide_eq_false fun ⟨_, _, e⟩ => of_decide_eq_false f1 (by rw [e])
    simp only [↓wt, wu, wk0, wk1, wk2, wk3, Nat.reduceAdd, Nat.reduceEqDiff, Nat.reduceLeDiff, Nat.reduceLT, Nat.reduceMul, Int.reduceLE, Int.reduceLT, Int.reduceEq, Int.reduceNe, wk4, laidS, keepS, f1, hr, Try.results32]
    exact exp_c
  | true =>
    have g1 : o.length = p.length := by have := of_decide_eq_true f1; omega
    cases f2 : decide (i = j) with
    | false =>
      have hr : decide (i = j ∧ u = v ∧ o = p) = false := decide_eq_false fun ⟨e, _⟩ => of_decide_eq_false f2 e
      simp only [↓wt, wu, wk0, wk1, wk2, wk3, Nat.reduceAdd, Nat.reduceEqDiff, Nat.reduceLeDiff, Nat.reduceLT, Nat.reduceMul, Int.reduceLE, Int.reduceLT, Int.reduceEq, Int.reduceNe, wk4, laidS, keepS, f1, f2, hr, Try.results32]
      exact exp_c
    | true =>
      cases f3 : decide (u = v) with
      | false =>
        have hr : decide (i = j ∧ u = v ∧ o = p) = false := decide_eq_false fun ⟨_, e, _⟩ => of_decide_eq_false f3 e
        simp only [↓wt, wu, wk0, wk1, wk2, wk3, Nat.reduceAdd, Nat.reduceEqDiff, Nat.reduceLeDiff, Nat.reduceLT, Nat.reduceMul, Int.reduceLE, Int.reduceLT, Int.reduceEq, Int.reduceNe, wk4, laidS, keepS, f1, f2, f3, hr, Try.results32]
        exact exp_c
      | true =>
        simp only [↓wt, wu, wk0, wk1, wk2, wk3, Nat.reduceAdd, Nat.reduceEqDiff, Nat.reduceLeDiff, Nat.reduceLT, Nat.reduceMul, Int.reduceLE, Int.reduceLT, Int.reduceEq, Int.reduceNe, wk4, laidS, keepS, f1, f2, f3]
        refine loop_rule tabOk (rs_I i u j v o p) (fun k => k ≤ o.length ∧ o.take k = p.take k) (fun k => o.length - k) 0 ⟨by omega, rfl⟩ ?_ (fun _ => rfl) ?_
        · simp only [↓wt, wu, wk0, wk1, wk2, wk3, wkf, Nat.reduceAdd, Nat.reduceEqDiff, Nat.reduceLeDiff, Nat.reduceLT, Nat.reduceMul, Int.reduceLE, Int.reduceLT, Int.reduceEq, Int.reduceNe, wk4, laidS, keepS, rs_I, RowA]
        · rintro k ⟨h1, h2⟩
          simp only [rs_I, RowA]
          simp only [↓wt, wu, wk0, wk1, wk2, wk3, Nat.reduceAdd, Nat.reduceEqDiff, Nat.reduceLeDiff, Nat.reduceLT, Nat.reduceMul, Int.reduceLE, Int.reduceLT, Int.reduceEq, Int.reduceNe, wk4, laidS, keepS]
          refine r_casesP (fun hc => ?_) (fun hc => ?_)
          · simp only [↓wt, wu, wk0, wk1, wk2, wk3, Nat.reduceAdd, Nat.reduceEqDiff, Nat.reduceLeDiff, Nat.reduceLT, Nat.reduceMul, Int.reduceLE, Int.reduceLT, Int.reduceEq, Int.reduceNe, wk4, laidS, keepS]
            refine draw_rule tabOk mixed [0, 2, 0, 2, 2, 0, 2, 0, 2, 2, 0] [[], [0], [], [0, 1, 2], [0, 1, 2, 3], [], [5], [], [5, 6, 7], [5, 6, 7, 8], [0, 1, 2, 3, 4, 5, 6, 7, 8, 9]] (by kernel_rfl) ?_
            cases f4 : decide (o.getD k 0 = p.getD k 0) with
            | false =>
              have hr : decide (i = j ∧ u = v ∧ o = p) = false := decide_eq_false fun ⟨_, _, e⟩ => of_decide_eq_false f4 (by rw [e])
              simp only [↓wt, wu, wk0, wk1, wk2, wk3, Nat.reduceAdd, Nat.reduceEqDiff, Nat.reduceLeDiff, Nat.reduceLT, Nat.reduceMul, Int.reduceLE, Int.reduceLT, Int.reduceEq, Int.reduceNe, wk4, laidS, keepS, f4, hr, Try.results32]
              exact ⟨by omega, by omega, by omega, by omega, by omega, by omega, exp_c⟩
            | true =>
              have e1 : IntKind.i64.wrap ((k : Int) + 1) = ((k + 1 : Nat) : Int) := by rw [wrap_i64 (by omega) (by omega)]; omega
              simp only [↓wt, wu, wk0, wk1, wk2, wk3, Nat.reduceAdd, Nat.reduceEqDiff, Nat.reduceLeDiff, Nat.reduceLT, Nat.reduceMul, Int.reduceLE, Int.reduceLT, Int.reduceEq, Int.reduceNe, wk4, laidS, keepS, f4, e1]
              refine ⟨by omega, by omega, by omega, by omega, by omega, by omega, k + 1, ⟨by omega, (take_snoc_eq (d := 0) (by omega) (by omega)).2 ⟨h2, of_decide_eq_true f4⟩⟩, by omega, ?_⟩
              simp only [↓wt, wu, wk0, wk1, wk2, wk3, wkf, Nat.reduceAdd, Nat.reduceEqDiff, Nat.reduceLeDiff, Nat.reduceLT, Nat.reduceMul, Int.reduceLE, Int.reduceLT, Int.reduceEq, Int.reduceNe, wk4, laidS, keepS, rs_I, RowA, e1]
          · have hk : k = o.length := by omega
            have hop : o = p := by
              rw [hk, List.take_length, g1, List.take_length] at h2; exact h2
            have hr : decide (i = j ∧ u = v ∧ o = p) = true := decide_eq_true ⟨of_decide_eq_true f2, of_decide_eq_true f3, hop⟩
            simp only [↓wt, wu, wk0, wk1, wk2, wk3, Nat.reduceAdd, Nat.reduceEqDiff, Nat.reduceLeDiff, Nat.reduceLT, Nat.reduceMul, Int.reduceLE, Int.reduceLT, Int.reduceEq, Int.reduceNe, wk4, laidS, keepS, hr, Try.results32]
            exact exp_c
end Go.Ab
