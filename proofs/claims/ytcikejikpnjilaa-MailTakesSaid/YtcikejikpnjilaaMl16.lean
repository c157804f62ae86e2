/- Mail: may it be a message, however long it is. -/
import Derived.Test.YtcikejikpnjilaaCl60
import Derived.Test.YtcikejikpnjilaaSh4
import Derived.Test.YtcikejikpnjilaaTRt2
set_option linter.unusedSimpArgs false
set_option linter.unusedVariables false
set_option linter.constructorNameAsVariable false
set_option maxRecDepth 100000
namespace Go.Ab
open Go Go.Proofs Go.RowKit

set_option maxHeartbeats 2000000 in
theorem rmayW_call (i u : Int) (o : List Int) (n w : Int) (hl : o.length < 4611686018427387904) : PCall Try.prog 44 [RowA i u o, .c (.int .i64 n), .c (.int .i64 w)] (.c (.bool (decide (MayR i u o n w)))) := by
  refine pcall_body tabOk Try.func44 rfl rfl (by rw [Try.ntmps44]; simp) ?_
  simp only [Try.ntmps44, RowA]
  cases f1 : decide (w < 0) with
  | true =>
    simp only [↓wt, wu, wk0, wk1, wk2, wk3, Nat.reduceAdd, Nat.reduceEqDiff, Nat.reduceLeDiff, Nat.reduceLT, Nat.reduceMul, Int.reduceLE, Int.reduceLT, Int.reduceEq, Int.reduceNe, wk4, laidS, keepS, f1, Try.results44]
    exact exp_b (p := MayR i u o n w) (decide_eq_false fun h => h.1.1 (of_decide_eq_true f1)).symm
  | false =>
  simp only [↓wt, wu, wk0, wk1, wk2, wk3, Nat.reduceAdd, Nat.reduceEqDiff, Nat.reduceLeDiff, Nat.reduceLT, Nat.reduceMul, Int.reduceLE, Int.reduceLT, Int.reduceEq, Int.reduceNe, wk4, laidS, keepS, f1]
  cases f2 : decide (w ≥ n) with
  | true =>
    simp only [↓wt, wu, wk0, wk1, wk2, wk3, Nat.reduceAdd, Nat.reduceEqDiff, Nat.reduceLeDiff, Nat.reduceLT, Nat.reduceMul, Int.reduceLE, Int.reduceLT, Int.reduceEq, Int.reduceNe, wk4, laidS, keepS, f2, Try.results44]
    exact exp_b (p := MayR i u o n w) (decide_eq_false fun h => h.1.2 (of_decide_eq_true f2)).symm
  | false =>
  simp only [↓wt, wu, wk0, wk1, wk2, wk3, Nat.reduceAdd, Nat.reduceEqDiff, Nat.reduceLeDiff, Nat.reduceLT, Nat.reduceMul, Int.reduceLE, Int.reduceLT, Int.reduceEq, Int.reduceNe, wk4, laidS, keepS, f2]
  cases f3 : decide ((o.length : Int) = n) with
  | false =>
    simp only [↓wt, wu, wk0, wk1, wk2, wk3, Nat.reduceAdd, Nat.reduceEqDiff, Nat.reduceLeDiff, Nat.reduceLT, Nat.reduceMul, Int.reduceLE, Int.reduceLT, Int.reduceEq, Int.reduceNe, wk4, laidS, keepS, f3, Try.results44]
    exact exp_b (p := MayR i u o n w) (decide_eq_false fun h => of_decide_eq_false f3 h.2.1).symm
  | true =>
  simp only [↓wt, wu, wk0, wk1, wk2, wk3, Nat.reduceAdd, Nat.reduceEqDiff, Nat.reduceLeDiff, Nat.reduceLT, Nat.reduceMul, Int.reduceLE, Int.reduceLT, Int.reduceEq, Int.reduceNe, wk4, laidS, keepS, f3]
  cases f4 : decide (i < 0) with
  | true =>
    simp only [↓wt, wu, wk0, wk1, wk2, wk3, Nat.reduceAdd, Nat.reduceEqDiff, Nat.reduceLeDiff, Nat.reduceLT, Nat.reduceMul, Int.reduceLE, Int.reduceLT, Int.reduceEq, Int.reduceNe, wk4, laidS, keepS, f4, Try.results44]
    exact exp_b (p := MayR i u o n w) (decide_eq_false fun h => by have := h.2.2.1.1; have := of_decide_eq_true f4; omega).symm
  | false =>
  simp only [↓wt, wu, wk0, wk1, wk2, wk3, Nat.reduceAdd, Nat.reduceEqDiff, Nat.reduceLeDiff, Nat.reduceLT, Nat.reduceMul, Int.reduceLE, Int.reduceLT, Int.reduceEq, Int.reduceNe, wk4, laidS, keepS, f4]
  cases f5 : decide (i > 1099511627776) with
  | true =>
    simp only [↓wt, wu, wk0, wk1, wk2, wk3, Nat.reduceAdd, Nat.reduceEqDiff, Nat.reduceLeDiff, Nat.reduceLT, Nat.reduceMul, Int.reduceLE, Int.reduceLT, Int.reduceEq, Int.reduceNe, wk4, laidS, keepS, f5, Try.results44]
    exact exp_b (p := MayR i u o n w) (decide_eq_false fun h => by have := h.2.2.1.2; have := of_decide_eq_true f5; omega).symm
  | false =>
  simp only [↓wt, wu, wk0, wk1, wk2, wk3, Nat.reduceAdd, Nat.reduceEqDiff, Nat.reduceLeDiff, Nat.reduceLT, Nat.reduceMul, Int.reduceLE, Int.reduceLT, Int.reduceEq, Int.reduceNe, wk4, laidS, keepS, f5]
  cases f6 : decide (u < 0) with
  | true =>
    simp only [↓wt, wu, wk0, wk1, wk2, wk3, Nat.reduceAdd, Nat.reduceEqDiff, Nat.reduceLeDiff, Nat.reduceLT, Nat.reduceMul, Int.reduceLE, Int.reduceLT, Int.reduceEq, Int.reduceNe, wk4, laidS, keepS, f6, Try.results44]
    exact exp_b (p := MayR i u o n w) (decide_eq_false fun h => by have := h.2.2.2.1.1; have := of_decide_eq_true f6; omega).symm
  | false =>
  simp only [↓wt, wu, wk0, wk1, wk2, wk3, Nat.reduceAdd, Nat.reduceEqDiff, Nat.reduceLeDiff, Nat.reduceLT, Nat.reduceMul, Int.reduceLE, Int.reduceLT, Int.reduceEq, Int.reduceNe, wk4, laidS, keepS, f6]
  cases f7 : decide (u > 1099511627776) with
  | true =>
    simp only [↓wt, wu, wk0, wk1, wk2, wk3, Nat.reduceAdd, Nat.reduceEqDiff, Nat.reduceLeDiff, Nat.reduceLT, Nat.reduceMul, Int.reduceLE, Int.reduceLT, Int.reduceEq, Int.reduceNe, wk4, laidS, keepS, f7, Try.results44]
    exact exp_b (p := MayR i u o n w) (decide_eq_false fun h => by have := h.2.2.2.1.2; have := of_decide_eq_true f7; omega).symm
  | false =>
  have g1 := of_decide_eq_false f1
  have g2 := of_decide_eq_false f2
  have g3 := of_decide_eq_true f3
  have g4 := of_decide_eq_false f4
  have g5 := of_decide_eq_false f5
  have g6 := of_decide_eq_false f6
  have g7 := of_decide_eq_false f7
  clear f1 f2 f3 f4 f5 f6 f7
  subst g3
  simp only [↓wt, wu, wk0, wk1, wk2, wk3, Nat.reduceAdd, Nat.reduceEqDiff, Nat.reduceLeDiff, Nat.reduceLT, Nat.reduceMul, Int.reduceLE, Int.reduceLT, Int.reduceEq, Int.reduceNe, wk4, laidS, keepS]
  refine loop_rule tabOk (rm_I i u w o) (fun k => k ≤ o.length ∧ ∀ j, j < k → Within (o.getD j 0) 1125899906842624 ∧ ((j : Int) = w → o.getD j 0 = 0)) (fun k => o.length - k) 0 ⟨by omega, fun n h => by omega⟩ ?_ (fun _ => rfl) ?_
  · simp only [↓wt, wu, wk0, wk1, wk2, wk3, wkf, Nat.reduceAdd, Nat.reduceEqDiff, Nat.reduceLeDiff, Nat.reduceLT, Nat.reduceMul, Int.reduceLE, Int.reduceLT, Int.reduceEq, Int.reduceNe, wk4, laidS, keepS, rm_I, RowA]
  · rintro k ⟨h1, h2⟩
    simp only [rm_I, RowA]
    simp only [↓wt, wu, wk0, wk1, wk2, wk3, Nat.reduceAdd, Nat.reduceEqDiff, Nat.reduceLeDiff, Nat.reduceLT, Nat.reduceMul, Int.reduceLE, Int.reduceLT, Int.reduceEq, Int.reduceNe, wk4, laidS, keepS]
    have hno : ∀ j, j < o.length → ¬ (Within (o.getD j 0) 1125899906842624 ∧ ((j : Int) = w → o.getD j 0 = 0)) → ¬ MayR i u o o.length w := fun j hj hb h => hb ⟨h.2.2.2.2.2 _ (by rw [List.getD_eq_getElem?_getD, List.getElem?_eq_getElem hj]; exact List.getElem_mem hj), fun e => by
      have := h.2.2.2.2.1
      rw [← e] at this; simpa using this⟩
    refine r_casesP (fun hc => ?_) (fun hc => ?_)
    · have hk : k < o.length := by omega
      have e1 : IntKind.i64.wrap ((k : Int) + 1) = ((k + 1 : Nat) : Int) := by rw [wrap_i64 (by omega) (by omega)]; omega
      simp only [↓wt, wu, wk0, wk1, wk2, wk3, Nat.reduceAdd, Nat.reduceEqDiff, Nat.reduceLeDiff, Nat.reduceLT, Nat.reduceMul, Int.reduceLE, Int.reduceLT, Int.reduceEq, Int.reduceNe, wk4, laidS, keepS]
      repeat (refine And.intro (by omega) ?_)
      cases f1 : decide (o.getD k 0 < 0) with
      | true =>
        simp only [↓wt, wu, wk0, wk1, wk2, wk3, Nat.reduceAdd, Nat.reduceEqDiff, Nat.reduceLeDiff, Nat.reduceLT, Nat.reduceMul, Int.reduceLE, Int.reduceLT, Int.reduceEq, Int.reduceNe, wk4, laidS, keepS, f1, Try.results44]
        repeat (refine And.intro (by omega) ?_)
        exact exp_b (p := MayR i u o o.length w) (decide_eq_false (hno k hk fun h => by have := h.1.1; have := of_decide_eq_true f1; omega)).symm
      | false =>
      simp only [↓wt, wu, wk0, wk1, wk2, wk3, Nat.reduceAdd, Nat.reduceEqDiff, Nat.reduceLeDiff, Nat.reduceLT, Nat.reduceMul, Int.reduceLE, Int.reduceLT, Int.reduceEq, Int.reduceNe, wk4, laidS, keepS, f1]
      repeat (refine And.intro (by omega) ?_)
      cases f2 : decide (o.getD k 0 > 1125899906842624) with
      | true =>
        simp only [↓wt, wu, wk0, wk1, wk2, wk3, Nat.reduceAdd, Nat.reduceEqDiff, Nat.reduceLeDiff, Nat.reduceLT, Nat.reduceMul, Int.reduceLE, Int.reduceLT, Int.reduceEq, Int.reduceNe, wk4, laidS, keepS, f2, Try.results44]
        repeat (refine And.intro (by omega) ?_)
        exact exp_b (p := MayR i u o o.length w) (decide_eq_false (hno k hk fun h => by have := h.1.2; have := of_decide_eq_true f2; omega)).symm
      | false =>
      have q1 := of_decide_eq_false f1
      have q2 := of_decide_eq_false f2
      have hgo : ((k : Int) = w → o.getD k 0 = 0) → ∀ j, j < k + 1 → Within (o.getD j 0) 1125899906842624 ∧ ((j : Int) = w → o.getD j 0 = 0) := fun hx j hj => by
        rcases Nat.lt_or_ge j k with h | h
        · exact h2 j h
        · have : j = k := by omega
          subst this; exact ⟨⟨by omega, by omega⟩, hx⟩
      simp only [↓wt, wu, wk0, wk1, wk2, wk3, Nat.reduceAdd, Nat.reduceEqDiff, Nat.reduceLeDiff, Nat.reduceLT, Nat.reduceMul, Int.reduceLE, Int.reduceLT, Int.reduceEq, Int.reduceNe, wk4, laidS, keepS, f2]
      cases f3 : decide ((k : Int) = w) with
      | false =>
        simp only [↓wt, wu, wk0, wk1, wk2, wk3, Nat.reduceAdd, Nat.reduceEqDiff, Nat.reduceLeDiff, Nat.reduceLT, Nat.reduceMul, Int.reduceLE, Int.reduceLT, Int.reduceEq, Int.reduceNe, wk4, laidS, keepS, f3, e1]
        repeat (refine And.intro (by omega) ?_)
        refine ⟨k + 1, ⟨by omega, hgo fun e => absurd e (of_decide_eq_false f3)⟩, by omega, ?_⟩
        simp only [↓wt, wu, wk0, wk1, wk2, wk3, wkf, Nat.reduceAdd, Nat.reduceEqDiff, Nat.reduceLeDiff, Nat.reduceLT, Nat.reduceMul, Int.reduceLE, Int.reduceLT, Int.reduceEq, Int.reduceNe, wk4, laidS, keepS, rm_I, RowA, e1]
      | true =>
        simp only [↓wt, wu, wk0, wk1, wk2, wk3, Nat.reduceAdd, Nat.reduceEqDiff, Nat.reduceLeDiff, Nat.reduceLT, Nat.reduceMul, Int.reduceLE, Int.reduceLT, Int.reduceEq, Int.reduceNe, wk4, laidS, keepS, f3]
        repeat (refine And.intro (by omega) ?_)
        cases f4 : decide (o.getD k 0 > 0) with
        | true =>
          simp only [↓wt, wu, wk0, wk1, wk2, wk3, Nat.reduceAdd, Nat.reduceEqDiff, Nat.reduceLeDiff, Nat.reduceLT, Nat.reduceMul, Int.reduceLE, Int.reduceLT, Int.reduceEq, Int.reduceNe, wk4, laidS, keepS, f4, Try.results44]
          repeat (refine And.intro (by omega) ?_)
          exact exp_b (p := MayR i u o o.length w) (decide_eq_false (hno k hk fun h => by have := h.2 (of_decide_eq_true f3); have := of_decide_eq_true f4; omega)).symm
        | false =>
          simp only [↓wt, wu, wk0, wk1, wk2, wk3, Nat.reduceAdd, Nat.reduceEqDiff, Nat.reduceLeDiff, Nat.reduceLT, Nat.reduceMul, Int.reduceLE, Int.reduceLT, Int.reduceEq, Int.reduceNe, wk4, laidS, keepS, f4, e1]
          repeat (refine And.intro (by omega) ?_)
          refine ⟨k + 1, ⟨by omega, hgo fun e => by have := of_decide_eq_false f4; omega⟩, by omega, ?_⟩
          simp only [↓wt, wu, wk0, wk1, wk2, wk3, wkf, Nat.reduceAdd, Nat.reduceEqDiff, Nat.reduceLeDiff, Nat.reduceLT, Nat.reduceMul, Int.reduceLE, Int.reduceLT, Int.reduceEq, Int.reduceNe, wk4, laidS, keepS, rm_I, RowA, e1]
    · simp only [↓wt, wu, wk0, wk1, wk2, wk3, Nat.reduceAdd, Nat.reduceEqDiff, Nat.reduceLeDiff, Nat.reduceLT, Nat.reduceMul, Int.reduceLE, Int.reduceLT, Int.reduceEq, Int.reduceNe, wk4, laidS, keepS, Try.results44]
      refine exp_b (p := MayR i u o o.length w) (decide_eq_true ?_).symm
      have hw : ((w.toNat : Nat) : Int) = w := by omega
      refine ⟨⟨g1, g2⟩, rfl, ⟨by omega, by omega⟩, ⟨by omega, by omega⟩, (h2 w.toNat (by omega)).2 hw, fun v hv => ?_⟩
      obtain ⟨j, hj, rfl⟩ := List.getElem_of_mem hv
      have := (h2 j (by omega)).1
      rwa [List.getD_eq_getElem?_getD, List.getElem?_eq_getElem hj] at this
set_option maxHeartbeats 2000000 in
theorem rrightW_call (c : Conf) (l : List RowD) (hl : Wide l) : PCall Try.prog 27 [ConfA c, BooksV l] (.c (.bool (decide (RightB c l)))) := by
  have m1 := rrtmay_call c
  have hl1 := hl.1
  refine pcall_body tabOk Try.func27 rfl rfl (by rw [Try.ntmps27]; simp) ?_
  simp only [Try.ntmps27, ConfA, BooksV]
  simp only [↓wt, wu, wk0, wk1, wk2, wk3, Nat.reduceAdd, Nat.reduceEqDiff, Nat.reduceLeDiff, Nat.reduceLT, Nat.reduceMul, Int.reduceLE, Int.reduceLT, Int.reduceEq, Int.reduceNe, wk4, laidS, keepS]
  refine icall_drop [] m1 ⟨arg_conf', trivial⟩ (.c _) ?_
  simp only [↓wt, wu, wk0, wk1, wk2, wk3, Nat.reduceAdd, Nat.reduceEqDiff, Nat.reduceLeDiff, Nat.reduceLT, Nat.reduceMul, Int.reduceLE, Int.reduceLT, Int.reduceEq, Int.reduceNe, wk4, laidS, keepS]
  refine r_gcasesN (fun hc hb => ?_) (fun hc hb => ?_) <;> simp only [↓wt, wu, wk0, wk1, wk2, wk3, Nat.reduceAdd, Nat.reduceEqDiff, Nat.reduceLeDiff, Nat.reduceLT, Nat.reduceMul, Int.reduceLE, Int.reduceLT, Int.reduceEq, Int.reduceNe, wk4, laidS, keepS, hb]
  rotate_left
  · simp only [↓wt, wu, wk0, wk1, wk2, wk3, Nat.reduceAdd, Nat.reduceEqDiff, Nat.reduceLeDiff, Nat.reduceLT, Nat.reduceMul, Int.reduceLE, Int.reduceLT, Int.reduceEq, Int.reduceNe, wk4, laidS, keepS, Try.results27]
    exact exp_bF (p := RightB c l) fun h => hc h.1
  repeat' (first | (refine r_casesD (fun hp hb => ?_) (fun hp hb => ?_) <;> simp only [↓wt, wu, wk0, wk1, wk2, wk3, Nat.reduceAdd, Nat.reduceEqDiff, Nat.reduceLeDiff, Nat.reduceLT, Nat.reduceMul, Int.reduceLE, Int.reduceLT, Int.reduceEq, Int.reduceNe, wk4, laidS, keepS, Try.results27, hb]) | (refine r_casesN (fun hp hb => ?_) (fun hp hb => ?_) <;> simp only [↓wt, wu, wk0, wk1, wk2, wk3, Nat.reduceAdd, Nat.reduceEqDiff, Nat.reduceLeDiff, Nat.reduceLT, Nat.reduceMul, Int.reduceLE, Int.reduceLT, Int.reduceEq, Int.reduceNe, wk4, laidS, keepS, Try.results27, hb]) | (refine r_casesM (fun hp hb => ?_) (fun hp hb => ?_) <;> simp only [↓wt, wu, wk0, wk1, wk2, wk3, Nat.reduceAdd, Nat.reduceEqDiff, Nat.reduceLeDiff, Nat.reduceLT, Nat.reduceMul, Int.reduceLE, Int.reduceLT, Int.reduceEq, Int.reduceNe, wk4, laidS, keepS, Try.results27, hb]) | (refine r_casesB (fun hp hb => ?_) (fun hp hb => ?_) <;> simp only [↓wt, wu, wk0, wk1, wk2, wk3, Nat.reduceAdd, Nat.reduceEqDiff, Nat.reduceLeDiff, Nat.reduceLT, Nat.reduceMul, Int.reduceLE, Int.reduceLT, Int.reduceEq, Int.reduceNe, wk4, laidS, keepS, Try.results27, hb]) | (refine r_gcasesD (fun hp hb => ?_) (fun hp hb => ?_) <;> simp only [↓wt, wu, wk0, wk1, wk2, wk3, Nat.reduceAdd, Nat.reduceEqDiff, Nat.reduceLeDiff, Nat.reduceLT, Nat.reduceMul, Int.reduceLE, Int.reduceLT, Int.reduceEq, Int.reduceNe, wk4, laidS, keepS, Try.results27, hb]) | (refine r_gcasesN (fun hp hb => ?_) (fun hp hb => ?_) <;> simp only [↓wt, wu, wk0, wk1, wk2, wk3, Nat.reduceAdd, Nat.reduceEqDiff, Nat.reduceLeDiff, Nat.reduceLT, Nat.reduceMul, Int.reduceLE, Int.reduceLT, Int.reduceEq, Int.reduceNe, wk4, laidS, keepS, Try.results27, hb]) | (refine r_gcasesM (fun hp hb => ?_) (fun hp hb => ?_) <;> simp only [↓wt, wu, wk0, wk1, wk2, wk3, Nat.reduceAdd, Nat.reduceEqDiff, Nat.reduceLeDiff, Nat.reduceLT, Nat.reduceMul, Int.reduceLE, Int.reduceLT, Int.reduceEq, Int.reduceNe, wk4, laidS, keepS, Try.results27, hb]) | (refine r_gcasesB (fun hp hb => ?_) (fun hp hb => ?_) <;> simp only [↓wt, wu, wk0, wk1, wk2, wk3, Nat.reduceAdd, Nat.reduceEqDiff, Nat.reduceLeDiff, Nat.reduceLT, Nat.reduceMul, Int.reduceLE, Int.reduceLT, Int.reduceEq, Int.reduceNe, wk4, laidS, keepS, Try.results27, hb]) | ((with_reducible refine And.intro ?_ ?_); omega) | fail)
  rotate_left
  · exact exp_bF (p := RightB c l) fun h => hp h.2.1.1
  have hn := hc.1
  refine freeze_rule 0 [1, 2, 5] (by simp only [↓wt, wu, wk0, wk1, wk2, wk3, Nat.reduceAdd, Nat.reduceEqDiff, Nat.reduceLeDiff, Nat.reduceLT, Nat.reduceMul, Int.reduceLE, Int.reduceLT, Int.reduceEq, Int.reduceNe, wk4, laidS, keepS, underL_R]; (try (repeat' (first | (exact fun _ => by simp only [pureL_eq, underL_cons, underL_nil, AV.cells, under_l, under_c, under_g, under_e, under_f, underL_B, underL_I, underL_Bs, under_Bs, List.mem_cons, List.not_mem_nil, or_false, forall_eq_or_imp, forall_eq, and_self, and_true, true_and, underL_R]) | ((with_reducible refine And.intro ?_ ?_)) | (intro _) | omega | (simp only [pureL_eq, underL_cons, underL_nil, AV.cells, under_l, under_c, under_g, under_e, under_f, underL_B, underL_I, underL_Bs, under_Bs, List.mem_cons, List.not_mem_nil, or_false, forall_eq_or_imp, forall_eq, and_self, and_true, true_and, underL_R])))); done) (by simp only [↓wt, wu, wk0, wk1, wk2, wk3, Nat.reduceAdd, Nat.reduceEqDiff, Nat.reduceLeDiff, Nat.reduceLT, Nat.reduceMul, Int.reduceLE, Int.reduceLT, Int.reduceEq, Int.reduceNe, wk4, laidS, keepS, underL_R]; (try (repeat' (first | (exact fun _ => by simp only [pureL_eq, underL_cons, underL_nil, AV.cells, under_l, under_c, under_g, under_e, under_f, underL_B, underL_I, underL_Bs, under_Bs, List.mem_cons, List.not_mem_nil, or_false, forall_eq_or_imp, forall_eq, and_self, and_true, true_and, underL_R]) | ((with_reducible refine And.intro ?_ ?_)) | (intro _) | omega | (simp only [pureL_eq, underL_cons, underL_nil, AV.cells, under_l, under_c, under_g, under_e, under_f, underL_B, underL_I, underL_Bs, under_Bs, List.mem_cons, List.not_mem_nil, or_false, forall_eq_or_imp, forall_eq, and_self, and_true, true_and, underL_R])))); done) ?_; simp only [↓wt, wu, wk0, wk1, wk2, wk3, Nat.reduceAdd, Nat.reduceEqDiff, Nat.reduceLeDiff, Nat.reduceLT, Nat.reduceMul, Int.reduceLE, Int.reduceLT, Int.reduceEq, Int.reduceNe, wk4, laidS, keepS, underL_R]
  refine loop_ruleC tabOk [1, 2] (fun k : Nat => [(5, .c (.int .i64 k))]) (fun k => k ≤ l.length ∧ ∀ j, j < k → MayR (rowAt l j).i (rowAt l j).u (rowAt l j).o c.n j ∧ (rowAt l j).i ≤ c.c) (fun k => l.length - k) 0 ⟨by omega, fun j h => by omega⟩ ?_ ?_
  · simp only [↓wt, wu, wk0, wk1, wk2, wk3, wkf, Nat.reduceAdd, Nat.reduceEqDiff, Nat.reduceLeDiff, Nat.reduceLT, Nat.reduceMul, Int.reduceLE, Int.reduceLT, Int.reduceEq, Int.reduceNe, wk4, laidS, keepS, underL_R, under_e]
  · rintro k ⟨hk, hG⟩
    simp only [↓wt, wu, wk0, wk1, wk2, wk3, Nat.reduceAdd, Nat.reduceEqDiff, Nat.reduceLeDiff, Nat.reduceLT, Nat.reduceMul, Int.reduceLE, Int.reduceLT, Int.reduceEq, Int.reduceNe, wk4, laidS, keepS]
    repeat' (first | (refine r_casesD (fun hp hb => ?_) (fun hp hb => ?_) <;> simp only [↓wt, wu, wk0, wk1, wk2, wk3, Nat.reduceAdd, Nat.reduceEqDiff, Nat.reduceLeDiff, Nat.reduceLT, Nat.reduceMul, Int.reduceLE, Int.reduceLT, Int.reduceEq, Int.reduceNe, wk4, laidS, keepS, hb]) | (refine r_casesN (fun hp hb => ?_) (fun hp hb => ?_) <;> simp only [↓wt, wu, wk0, wk1, wk2, wk3, Nat.reduceAdd, Nat.reduceEqDiff, Nat.reduceLeDiff, Nat.reduceLT, Nat.reduceMul, Int.reduceLE, Int.reduceLT, Int.reduceEq, Int.reduceNe, wk4, laidS, keepS, hb]) | (refine r_casesM (fun hp hb => ?_) (fun hp hb => ?_) <;> simp only [↓wt, wu, wk0, wk1, wk2, wk3, Nat.reduceAdd, Nat.reduceEqDiff, Nat.reduceLeDiff, Nat.reduceLT, Nat.reduceMul, Int.reduceLE, Int.reduceLT, Int.reduceEq, Int.reduceNe, wk4, laidS, keepS, hb]) | (refine r_casesB (fun hp hb => ?_) (fun hp hb => ?_) <;> simp only [↓wt, wu, wk0, wk1, wk2, wk3, Nat.reduceAdd, Nat.reduceEqDiff, Nat.reduceLeDiff, Nat.reduceLT, Nat.reduceMul, Int.reduceLE, Int.reduceLT, Int.reduceEq, Int.reduceNe, wk4, laidS, keepS, hb]) | (refine r_gcasesD (fun hp hb => ?_) (fun hp hb => ?_) <;> simp only [↓wt, wu, wk0, wk1, wk2, wk3, Nat.reduceAdd, Nat.reduceEqDiff, Nat.reduceLeDiff, Nat.reduceLT, Nat.reduceMul, Int.reduceLE, Int.reduceLT, Int.reduceEq, Int.reduceNe, wk4, laidS, keepS, hb]) | (refine r_gcasesN (fun hp hb => ?_) (fun hp hb => ?_) <;> simp only [↓wt, wu, wk0, wk1, wk2, wk3, Nat.reduceAdd, Nat.reduceEqDiff, Nat.reduceLeDiff, Nat.reduceLT, Nat.reduceMul, Int.reduceLE, Int.reduceLT, Int.reduceEq, Int.reduceNe, wk4, laidS, keepS, hb]) | (refine r_gcasesM (fun hp hb => ?_) (fun hp hb => ?_) <;> simp only [↓wt, wu, wk0, wk1, wk2, wk3, Nat.reduceAdd, Nat.reduceEqDiff, Nat.reduceLeDiff, Nat.reduceLT, Nat.reduceMul, Int.reduceLE, Int.reduceLT, Int.reduceEq, Int.reduceNe, wk4, laidS, keepS, hb]) | (refine r_gcasesB (fun hp hb => ?_) (fun hp hb => ?_) <;> simp only [↓wt, wu, wk0, wk1, wk2, wk3, Nat.reduceAdd, Nat.reduceEqDiff, Nat.reduceLeDiff, Nat.reduceLT, Nat.reduceMul, Int.reduceLE, Int.reduceLT, Int.reduceEq, Int.reduceNe, wk4, laidS, keepS, hb]) | ((with_reducible refine And.intro ?_ ?_); omega) | fail)
    · have hkl : k < l.length := by omega
      have e3 := wi_succ (k := k) (by omega)
      have m2 := rmayW_call (rowAt l k).i (rowAt l k).u (rowAt l k).o c.n k (hl.2 k)
      refine draw_rule tabOk mixed [0, 0, 0, 0, 0, 0, 0, 1, 0, 0, 0, 0, 0, 0, 0, 0, 0, 0, 0] [[], [], [0, 1], [0, 1, 2], [], [4], [], [0, 1, 2, 3, 4, 5, 6], [0, 1, 2, 3, 4, 5, 6, 7], [0, 1, 2, 3, 4, 5, 6, 7, 8], [0, 1, 2, 3, 4, 5, 6, 7, 8, 9], [0, 1, 2, 3, 4, 5, 6, 7, 8, 9], [0, 1, 2, 3, 4, 5, 6, 7, 8, 9, 10, 11], [0, 1, 2, 3, 4, 5, 6, 7, 8, 9, 10, 11, 12], [0, 1, 2, 3, 4, 5, 6, 7, 8, 9, 10, 11, 12, 13], [0, 1, 2, 3, 4, 5, 6, 7, 8, 9], [0, 1, 2, 3, 4, 5, 6, 7, 8, 9, 15], [0, 1, 2, 3, 4, 5, 6, 7, 8, 9, 10, 11, 12, 13, 14, 15, 16], [0, 1, 2, 3, 4, 5, 6, 7, 8, 9, 10, 11, 12, 13, 14, 15, 16, 17]] (by kernel_rfl) ?_
      simp only [↓wt, wu, wk0, wk1, wk2, wk3, Nat.reduceAdd, Nat.reduceEqDiff, Nat.reduceLeDiff, Nat.reduceLT, Nat.reduceMul, Int.reduceLE, Int.reduceLT, Int.reduceEq, Int.reduceNe, wk4, laidS, keepS, elem_R, RowV_eq, e3]
      repeat (refine And.intro (by omega) ?_)
      refine d_heavyC (icall_drop [] m2 ⟨arg_row, arg_c, arg_c, trivial⟩ (.c _) ⟨rfl, rfl⟩) ?_
      simp only [↓wt, wu, wk0, wk1, wk2, wk3, Nat.reduceAdd, Nat.reduceEqDiff, Nat.reduceLeDiff, Nat.reduceLT, Nat.reduceMul, Int.reduceLE, Int.reduceLT, Int.reduceEq, Int.reduceNe, wk4, laidS, keepS]
      refine r_gcasesN (fun hm hb => ?_) (fun hm hb => ?_) <;> simp only [↓wt, wu, wk0, wk1, wk2, wk3, Nat.reduceAdd, Nat.reduceEqDiff, Nat.reduceLeDiff, Nat.reduceLT, Nat.reduceMul, Int.reduceLE, Int.reduceLT, Int.reduceEq, Int.reduceNe, wk4, laidS, keepS, hb, elem_R, RowV_eq]
      · repeat (refine And.intro (by omega) ?_)
        repeat' (first | (refine r_casesD (fun hp hb => ?_) (fun hp hb => ?_) <;> simp only [↓wt, wu, wk0, wk1, wk2, wk3, Nat.reduceAdd, Nat.reduceEqDiff, Nat.reduceLeDiff, Nat.reduceLT, Nat.reduceMul, Int.reduceLE, Int.reduceLT, Int.reduceEq, Int.reduceNe, wk4, laidS, keepS, e3, hb]) | (refine r_casesN (fun hp hb => ?_) (fun hp hb => ?_) <;> simp only [↓wt, wu, wk0, wk1, wk2, wk3, Nat.reduceAdd, Nat.reduceEqDiff, Nat.reduceLeDiff, Nat.reduceLT, Nat.reduceMul, Int.reduceLE, Int.reduceLT, Int.reduceEq, Int.reduceNe, wk4, laidS, keepS, e3, hb]) | (refine r_casesM (fun hp hb => ?_) (fun hp hb => ?_) <;> simp only [↓wt, wu, wk0, wk1, wk2, wk3, Nat.reduceAdd, Nat.reduceEqDiff, Nat.reduceLeDiff, Nat.reduceLT, Nat.reduceMul, Int.reduceLE, Int.reduceLT, Int.reduceEq, Int.reduceNe, wk4, laidS, keepS, e3, hb]) | (refine r_casesB (fun hp hb => ?_) (fun hp hb => ?_) <;> simp only [↓wt, wu, wk0, wk1, wk2, wk3, Nat.reduceAdd, Nat.reduceEqDiff, Nat.reduceLeDiff, Nat.reduceLT, Nat.reduceMul, Int.reduceLE, Int.reduceLT, Int.reduceEq, Int.reduceNe, wk4, laidS, keepS, e3, hb]) | (refine r_gcasesD (fun hp hb => ?_) (fun hp hb => ?_) <;> simp only [↓wt, wu, wk0, wk1, wk2, wk3, Nat.reduceAdd, Nat.reduceEqDiff, Nat.reduceLeDiff, Nat.reduceLT, Nat.reduceMul, Int.reduceLE, Int.reduceLT, Int.reduceEq, Int.reduceNe, wk4, laidS, keepS, e3, hb]) | (refine r_gcasesN (fun hp hb => ?_) (fun hp hb => ?_) <;> simp only [↓wt, wu, wk0, wk1, wk2, wk3, Nat.reduceAdd, Nat.reduceEqDiff, Nat.reduceLeDiff, Nat.reduceLT, Nat.reduceMul, Int.reduceLE, Int.reduceLT, Int.reduceEq, Int.reduceNe, wk4, laidS, keepS, e3, hb]) | (refine r_gcasesM (fun hp hb => ?_) (fun hp hb => ?_) <;> simp only [↓wt, wu, wk0, wk1, wk2, wk3, Nat.reduceAdd, Nat.reduceEqDiff, Nat.reduceLeDiff, Nat.reduceLT, Nat.reduceMul, Int.reduceLE, Int.reduceLT, Int.reduceEq, Int.reduceNe, wk4, laidS, keepS, e3, hb]) | (refine r_gcasesB (fun hp hb => ?_) (fun hp hb => ?_) <;> simp only [↓wt, wu, wk0, wk1, wk2, wk3, Nat.reduceAdd, Nat.reduceEqDiff, Nat.reduceLeDiff, Nat.reduceLT, Nat.reduceMul, Int.reduceLE, Int.reduceLT, Int.reduceEq, Int.reduceNe, wk4, laidS, keepS, e3, hb]) | ((with_reducible refine And.intro ?_ ?_); omega) | fail)
        · simp only [↓wt, wu, wk0, wk1, wk2, wk3, Nat.reduceAdd, Nat.reduceEqDiff, Nat.reduceLeDiff, Nat.reduceLT, Nat.reduceMul, Int.reduceLE, Int.reduceLT, Int.reduceEq, Int.reduceNe, wk4, laidS, keepS, Try.results27]
          exact exp_bF (p := RightB c l) fun h => by have := (h.2.1.2 k hkl).2; omega
        · refine ⟨k + 1, ⟨by omega, fun j hj => ?_⟩, by omega, ?_⟩
          · rcases Nat.lt_or_ge j k with h | h
            · exact hG j h
            · have : j = k := by omega
              subst this; exact ⟨hm, by omega⟩
          · simp only [↓wt, wu, wk0, wk1, wk2, wk3, wkf, Nat.reduceAdd, Nat.reduceEqDiff, Nat.reduceLeDiff, Nat.reduceLT, Nat.reduceMul, Int.reduceLE, Int.reduceLT, Int.reduceEq, Int.reduceNe, wk4, laidS, keepS, e3, underL_R, under_e]
      · simp only [↓wt, wu, wk0, wk1, wk2, wk3, Nat.reduceAdd, Nat.reduceEqDiff, Nat.reduceLeDiff, Nat.reduceLT, Nat.reduceMul, Int.reduceLE, Int.reduceLT, Int.reduceEq, Int.reduceNe, wk4, laidS, keepS, Try.results27]
        exact exp_bF (p := RightB c l) fun h => hm (h.2.1.2 k hkl).1
    · have hk2 : k = l.length := by omega
      subst hk2
      have hro : RowsOk c l := ⟨by omega, hG⟩
      refine loop_ruleC tabOk [1, 2] (fun k : Nat => [(6, .c (.int .i64 k))]) (fun k => k ≤ l.length ∧ ∀ j, j < k → 0 ≤ ofC c l j) (fun k => l.length - k) 0 ⟨by omega, fun j h => by omega⟩ ?_ ?_
      · simp only [↓wt, wu, wk0, wk1, wk2, wk3, wkf, Nat.reduceAdd, Nat.reduceEqDiff, Nat.reduceLeDiff, Nat.reduceLT, Nat.reduceMul, Int.reduceLE, Int.reduceLT, Int.reduceEq, Int.reduceNe, wk4, laidS, keepS, underL_R, under_e]
      · rintro k ⟨hk, hH⟩
        simp only [↓wt, wu, wk0, wk1, wk2, wk3, Nat.reduceAdd, Nat.reduceEqDiff, Nat.reduceLeDiff, Nat.reduceLT, Nat.reduceMul, Int.reduceLE, Int.reduceLT, Int.reduceEq, Int.reduceNe, wk4, laidS, keepS]
        repeat' (first | (refine r_casesD (fun hp hb => ?_) (fun hp hb => ?_) <;> simp only [↓wt, wu, wk0, wk1, wk2, wk3, Nat.reduceAdd, Nat.reduceEqDiff, Nat.reduceLeDiff, Nat.reduceLT, Nat.reduceMul, Int.reduceLE, Int.reduceLT, Int.reduceEq, Int.reduceNe, wk4, laidS, keepS, hb]) | (refine r_casesN (fun hp hb => ?_) (fun hp hb => ?_) <;> simp only [↓wt, wu, wk0, wk1, wk2, wk3, Nat.reduceAdd, Nat.reduceEqDiff, Nat.reduceLeDiff, Nat.reduceLT, Nat.reduceMul, Int.reduceLE, Int.reduceLT, Int.reduceEq, Int.reduceNe, wk4, laidS, keepS, hb]) | (refine r_casesM (fun hp hb => ?_) (fun hp hb => ?_) <;> simp only [↓wt, wu, wk0, wk1, wk2, wk3, Nat.reduceAdd, Nat.reduceEqDiff, Nat.reduceLeDiff, Nat.reduceLT, Nat.reduceMul, Int.reduceLE, Int.reduceLT, Int.reduceEq, Int.reduceNe, wk4, laidS, keepS, hb]) | (refine r_casesB (fun hp hb => ?_) (fun hp hb => ?_) <;> simp only [↓wt, wu, wk0, wk1, wk2, wk3, Nat.reduceAdd, Nat.reduceEqDiff, Nat.reduceLeDiff, Nat.reduceLT, Nat.reduceMul, Int.reduceLE, Int.reduceLT, Int.reduceEq, Int.reduceNe, wk4, laidS, keepS, hb]) | (refine r_gcasesD (fun hp hb => ?_) (fun hp hb => ?_) <;> simp only [↓wt, wu, wk0, wk1, wk2, wk3, Nat.reduceAdd, Nat.reduceEqDiff, Nat.reduceLeDiff, Nat.reduceLT, Nat.reduceMul, Int.reduceLE, Int.reduceLT, Int.reduceEq, Int.reduceNe, wk4, laidS, keepS, hb]) | (refine r_gcasesN (fun hp hb => ?_) (fun hp hb => ?_) <;> simp only [↓wt, wu, wk0, wk1, wk2, wk3, Nat.reduceAdd, Nat.reduceEqDiff, Nat.reduceLeDiff, Nat.reduceLT, Nat.reduceMul, Int.reduceLE, Int.reduceLT, Int.reduceEq, Int.reduceNe, wk4, laidS, keepS, hb]) | (refine r_gcasesM (fun hp hb => ?_) (fun hp hb => ?_) <;> simp only [↓wt, wu, wk0, wk1, wk2, wk3, Nat.reduceAdd, Nat.reduceEqDiff, Nat.reduceLeDiff, Nat.reduceLT, Nat.reduceMul, Int.reduceLE, Int.reduceLT, Int.reduceEq, Int.reduceNe, wk4, laidS, keepS, hb]) | (refine r_gcasesB (fun hp hb => ?_) (fun hp hb => ?_) <;> simp only [↓wt, wu, wk0, wk1, wk2, wk3, Nat.reduceAdd, Nat.reduceEqDiff, Nat.reduceLeDiff, Nat.reduceLT, Nat.reduceMul, Int.reduceLE, Int.reduceLT, Int.reduceEq, Int.reduceNe, wk4, laidS, keepS, hb]) | ((with_reducible refine And.intro ?_ ?_); omega) | fail)
        · have hkl : k < l.length := by omega
          have e3 := wi_succ (k := k) (by omega)
          have m3 := rof_call c l k hc hro hkl
          refine icall_drop [] m3 ⟨arg_conf', arg_books, arg_c, trivial⟩ (.c _) ?_
          simp only [↓wt, wu, wk0, wk1, wk2, wk3, Nat.reduceAdd, Nat.reduceEqDiff, Nat.reduceLeDiff, Nat.reduceLT, Nat.reduceMul, Int.reduceLE, Int.reduceLT, Int.reduceEq, Int.reduceNe, wk4, laidS, keepS]
          repeat' (first | (refine r_casesD (fun hp hb => ?_) (fun hp hb => ?_) <;> simp only [↓wt, wu, wk0, wk1, wk2, wk3, Nat.reduceAdd, Nat.reduceEqDiff, Nat.reduceLeDiff, Nat.reduceLT, Nat.reduceMul, Int.reduceLE, Int.reduceLT, Int.reduceEq, Int.reduceNe, wk4, laidS, keepS, e3, hb]) | (refine r_casesN (fun hp hb => ?_) (fun hp hb => ?_) <;> simp only [↓wt, wu, wk0, wk1, wk2, wk3, Nat.reduceAdd, Nat.reduceEqDiff, Nat.reduceLeDiff, Nat.reduceLT, Nat.reduceMul, Int.reduceLE, Int.reduceLT, Int.reduceEq, Int.reduceNe, wk4, laidS, keepS, e3, hb]) | (refine r_casesM (fun hp hb => ?_) (fun hp hb => ?_) <;> simp only [↓wt, wu, wk0, wk1, wk2, wk3, Nat.reduceAdd, Nat.reduceEqDiff, Nat.reduceLeDiff, Nat.reduceLT, Nat.reduceMul, Int.reduceLE, Int.reduceLT, Int.reduceEq, Int.reduceNe, wk4, laidS, keepS, e3, hb]) | (refine r_casesB (fun hp hb => ?_) (fun hp hb => ?_) <;> simp only [↓wt, wu, wk0, wk1, wk2, wk3, Nat.reduceAdd, Nat.reduceEqDiff, Nat.reduceLeDiff, Nat.reduceLT, Nat.reduceMul, Int.reduceLE, Int.reduceLT, Int.reduceEq, Int.reduceNe, wk4, laidS, keepS, e3, hb]) | (refine r_gcasesD (fun hp hb => ?_) (fun hp hb => ?_) <;> simp only [↓wt, wu, wk0, wk1, wk2, wk3, Nat.reduceAdd, Nat.reduceEqDiff, Nat.reduceLeDiff, Nat.reduceLT, Nat.reduceMul, Int.reduceLE, Int.reduceLT, Int.reduceEq, Int.reduceNe, wk4, laidS, keepS, e3, hb]) | (refine r_gcasesN (fun hp hb => ?_) (fun hp hb => ?_) <;> simp only [↓wt, wu, wk0, wk1, wk2, wk3, Nat.reduceAdd, Nat.reduceEqDiff, Nat.reduceLeDiff, Nat.reduceLT, Nat.reduceMul, Int.reduceLE, Int.reduceLT, Int.reduceEq, Int.reduceNe, wk4, laidS, keepS, e3, hb]) | (refine r_gcasesM (fun hp hb => ?_) (fun hp hb => ?_) <;> simp only [↓wt, wu, wk0, wk1, wk2, wk3, Nat.reduceAdd, Nat.reduceEqDiff, Nat.reduceLeDiff, Nat.reduceLT, Nat.reduceMul, Int.reduceLE, Int.reduceLT, Int.reduceEq, Int.reduceNe, wk4, laidS, keepS, e3, hb]) | (refine r_gcasesB (fun hp hb => ?_) (fun hp hb => ?_) <;> simp only [↓wt, wu, wk0, wk1, wk2, wk3, Nat.reduceAdd, Nat.reduceEqDiff, Nat.reduceLeDiff, Nat.reduceLT, Nat.reduceMul, Int.reduceLE, Int.reduceLT, Int.reduceEq, Int.reduceNe, wk4, laidS, keepS, e3, hb]) | ((with_reducible refine And.intro ?_ ?_); omega) | fail)
          · simp only [↓wt, wu, wk0, wk1, wk2, wk3, Nat.reduceAdd, Nat.reduceEqDiff, Nat.reduceLeDiff, Nat.reduceLT, Nat.reduceMul, Int.reduceLE, Int.reduceLT, Int.reduceEq, Int.reduceNe, wk4, laidS, keepS, Try.results27]
            exact exp_bF (p := RightB c l) fun h => by have := h.2.2 k hkl; omega
          · refine ⟨k + 1, ⟨by omega, fun j hj => ?_⟩, by omega, ?_⟩
            · rcases Nat.lt_or_ge j k with h | h
              · exact hH j h
              · have : j = k := by omega
                subst this; omega
            · simp only [↓wt, wu, wk0, wk1, wk2, wk3, wkf, Nat.reduceAdd, Nat.reduceEqDiff, Nat.reduceLeDiff, Nat.reduceLT, Nat.reduceMul, Int.reduceLE, Int.reduceLT, Int.reduceEq, Int.reduceNe, wk4, laidS, keepS, e3, underL_R, under_e]
        · simp only [↓wt, wu, wk0, wk1, wk2, wk3, Nat.reduceAdd, Nat.reduceEqDiff, Nat.reduceLeDiff, Nat.reduceLT, Nat.reduceMul, Int.reduceLE, Int.reduceLT, Int.reduceEq, Int.reduceNe, wk4, laidS, keepS, Try.results27]
          exact exp_bT (p := RightB c l) ⟨hc, hro, fun j hj => hH j (by omega)⟩
set_option maxHeartbeats 4000000 in
theorem rmaymW_call (c : Conf) (m : MailD) (hr : Wide m.r) (hl : m.e.length < 4611686018427387904) : PCall Try.prog 13 [ConfA c, MailV m] (.c (.bool (decide (MayM c m)))) := by
  refine pcall_body tabOk Try.func13 rfl rfl (by rw [Try.ntmps13]; simp) ?_
  simp only [Try.ntmps13, ConfA, MailV]
  simp only [↓wt, wu, wk0, wk1, wk2, wk3, Nat.reduceAdd, Nat.reduceEqDiff, Nat.reduceLeDiff, Nat.reduceLT, Nat.reduceMul, Int.reduceLE, Int.reduceLT, Int.reduceEq, Int.reduceNe, wk4, laidS, keepS]
  refine icall_drop [] (rrightW_call c m.r hr) ⟨arg_conf', arg_books, trivial⟩ (.c _) ?_
  simp only [↓wt, wu, wk0, wk1, wk2, wk3, Nat.reduceAdd, Nat.reduceEqDiff, Nat.reduceLeDiff, Nat.reduceLT, Nat.reduceMul, Int.reduceLE, Int.reduceLT, Int.reduceEq, Int.reduceNe, wk4, laidS, keepS]
  repeat' (first | (refine r_casesD (fun hp hb => ?_) (fun hp hb => ?_) <;> simp only [↓wt, wu, wk0, wk1, wk2, wk3, Nat.reduceAdd, Nat.reduceEqDiff, Nat.reduceLeDiff, Nat.reduceLT, Nat.reduceMul, Int.reduceLE, Int.reduceLT, Int.reduceEq, Int.reduceNe, wk4, laidS, keepS, Try.results13, hb]) | (refine r_casesN (fun hp hb => ?_) (fun hp hb => ?_) <;> simp only [↓wt, wu, wk0, wk1, wk2, wk3, Nat.reduceAdd, Nat.reduceEqDiff, Nat.reduceLeDiff, Nat.reduceLT, Nat.reduceMul, Int.reduceLE, Int.reduceLT, Int.reduceEq, Int.reduceNe, wk4, laidS, keepS, Try.results13, hb]) | (refine r_casesM (fun hp hb => ?_) (fun hp hb => ?_) <;> simp only [↓wt, wu, wk0, wk1, wk2, wk3, Nat.reduceAdd, Nat.reduceEqDiff, Nat.reduceLeDiff, Nat.reduceLT, Nat.reduceMul, Int.reduceLE, Int.reduceLT, Int.reduceEq, Int.reduceNe, wk4, laidS, keepS, Try.results13, hb]) | (refine r_casesB (fun hp hb => ?_) (fun hp hb => ?_) <;> simp only [↓wt, wu, wk0, wk1, wk2, wk3, Nat.reduceAdd, Nat.reduceEqDiff, Nat.reduceLeDiff, Nat.reduceLT, Nat.reduceMul, Int.reduceLE, Int.reduceLT, Int.reduceEq, Int.reduceNe, wk4, laidS, keepS, Try.results13, hb]) | (refine r_gcasesD (fun hp hb => ?_) (fun hp hb => ?_) <;> simp only [↓wt, wu, wk0, wk1, wk2, wk3, Nat.reduceAdd, Nat.reduceEqDiff, Nat.reduceLeDiff, Nat.reduceLT, Nat.reduceMul, Int.reduceLE, Int.reduceLT, Int.reduceEq, Int.reduceNe, wk4, laidS, keepS, Try.results13, hb]) | (refine r_gcasesN (fun hp hb => ?_) (fun hp hb => ?_) <;> simp only [↓wt, wu, wk0, wk1, wk2, wk3, Nat.reduceAdd, Nat.reduceEqDiff, Nat.reduceLeDiff, Nat.reduceLT, Nat.reduceMul, Int.reduceLE, Int.reduceLT, Int.reduceEq, Int.reduceNe, wk4, laidS, keepS, Try.results13, hb]) | (refine r_gcasesM (fun hp hb => ?_) (fun hp hb => ?_) <;> simp only [↓wt, wu, wk0, wk1, wk2, wk3, Nat.reduceAdd, Nat.reduceEqDiff, Nat.reduceLeDiff, Nat.reduceLT, Nat.reduceMul, Int.reduceLE, Int.reduceLT, Int.reduceEq, Int.reduceNe, wk4, laidS, keepS, Try.results13, hb]) | (refine r_gcasesB (fun hp hb => ?_) (fun hp hb => ?_) <;> simp only [↓wt, wu, wk0, wk1, wk2, wk3, Nat.reduceAdd, Nat.reduceEqDiff, Nat.reduceLeDiff, Nat.reduceLT, Nat.reduceMul, Int.reduceLE, Int.reduceLT, Int.reduceEq, Int.reduceNe, wk4, laidS, keepS, Try.results13, hb]) | ((with_reducible refine And.intro ?_ ?_); omega) | fail)
  all_goals try exact exp_bF (p := MayM c m) fun h => by obtain ⟨⟨g0, g1⟩, g2, g3, g4, g5, g6, g7⟩ := h; unfold There at g1 g2; first | omega | contradiction
  rename_i hri _ _ _ _ _ _ _ _ _ _ _ _ _
  have hmc : MayC c := hri.1
  have hn16 := hmc.1
  have hf : There c m.f := ⟨by omega, by omega⟩
  have ho : There c m.o := ⟨by omega, by omega⟩
  refine loop_ruleC tabOk [2, 3] (fun k : Nat => [(5, .c (.int .i64 k))]) (fun k => k ≤ m.e.length ∧ ∀ j, j < k → LookOk (lookAt m.e j).1 (lookAt m.e j).2 ∧ (j = m.f → lookAt m.e j = (0, 0))) (fun k => m.e.length - k) 0 ⟨by omega, fun j h => by omega⟩ ?_ ?_
  · simp only [↓wt, wu, wk0, wk1, wk2, wk3, wkf, Nat.reduceAdd, Nat.reduceEqDiff, Nat.reduceLeDiff, Nat.reduceLT, Nat.reduceMul, Int.reduceLE, Int.reduceLT, Int.reduceEq, Int.reduceNe, wk4, laidS, keepS, underL_K, underL_R, under_e]
    try trivial
  · rintro k ⟨hk, hG⟩
    simp only [↓wt, wu, wk0, wk1, wk2, wk3, Nat.reduceAdd, Nat.reduceEqDiff, Nat.reduceLeDiff, Nat.reduceLT, Nat.reduceMul, Int.reduceLE, Int.reduceLT, Int.reduceEq, Int.reduceNe, wk4, laidS, keepS]
    repeat' (first | (refine r_casesD (fun hp hb => ?_) (fun hp hb => ?_) <;> simp only [↓wt, wu, wk0, wk1, wk2, wk3, Nat.reduceAdd, Nat.reduceEqDiff, Nat.reduceLeDiff, Nat.reduceLT, Nat.reduceMul, Int.reduceLE, Int.reduceLT, Int.reduceEq, Int.reduceNe, wk4, laidS, keepS, hb]) | (refine r_casesN (fun hp hb => ?_) (fun hp hb => ?_) <;> simp only [↓wt, wu, wk0, wk1, wk2, wk3, Nat.reduceAdd, Nat.reduceEqDiff, Nat.reduceLeDiff, Nat.reduceLT, Nat.reduceMul, Int.reduceLE, Int.reduceLT, Int.reduceEq, Int.reduceNe, wk4, laidS, keepS, hb]) | (refine r_casesM (fun hp hb => ?_) (fun hp hb => ?_) <;> simp only [↓wt, wu, wk0, wk1, wk2, wk3, Nat.reduceAdd, Nat.reduceEqDiff, Nat.reduceLeDiff, Nat.reduceLT, Nat.reduceMul, Int.reduceLE, Int.reduceLT, Int.reduceEq, Int.reduceNe, wk4, laidS, keepS, hb]) | (refine r_casesB (fun hp hb => ?_) (fun hp hb => ?_) <;> simp only [↓wt, wu, wk0, wk1, wk2, wk3, Nat.reduceAdd, Nat.reduceEqDiff, Nat.reduceLeDiff, Nat.reduceLT, Nat.reduceMul, Int.reduceLE, Int.reduceLT, Int.reduceEq, Int.reduceNe, wk4, laidS, keepS, hb]) | (refine r_gcasesD (fun hp hb => ?_) (fun hp hb => ?_) <;> simp only [↓wt, wu, wk0, wk1, wk2, wk3, Nat.reduceAdd, Nat.reduceEqDiff, Nat.reduceLeDiff, Nat.reduceLT, Nat.reduceMul, Int.reduceLE, Int.reduceLT, Int.reduceEq, Int.reduceNe, wk4, laidS, keepS, hb]) | (refine r_gcasesN (fun hp hb => ?_) (fun hp hb => ?_) <;> simp only [↓wt, wu, wk0, wk1, wk2, wk3, Nat.reduceAdd, Nat.reduceEqDiff, Nat.reduceLeDiff, Nat.reduceLT, Nat.reduceMul, Int.reduceLE, Int.reduceLT, Int.reduceEq, Int.reduceNe, wk4, laidS, keepS, hb]) | (refine r_gcasesM (fun hp hb => ?_) (fun hp hb => ?_) <;> simp only [↓wt, wu, wk0, wk1, wk2, wk3, Nat.reduceAdd, Nat.reduceEqDiff, Nat.reduceLeDiff, Nat.reduceLT, Nat.reduceMul, Int.reduceLE, Int.reduceLT, Int.reduceEq, Int.reduceNe, wk4, laidS, keepS, hb]) | (refine r_gcasesB (fun hp hb => ?_) (fun hp hb => ?_) <;> simp only [↓wt, wu, wk0, wk1, wk2, wk3, Nat.reduceAdd, Nat.reduceEqDiff, Nat.reduceLeDiff, Nat.reduceLT, Nat.reduceMul, Int.reduceLE, Int.reduceLT, Int.reduceEq, Int.reduceNe, wk4, laidS, keepS, hb]) | ((with_reducible refine And.intro ?_ ?_); omega) | fail)
    · have hkl : k < m.e.length := by omega
      have e3 := wi_succ (k := k) (by omega)
      simp only [↓wt, wu, wk0, wk1, wk2, wk3, Nat.reduceAdd, Nat.reduceEqDiff, Nat.reduceLeDiff, Nat.reduceLT, Nat.reduceMul, Int.reduceLE, Int.reduceLT, Int.reduceEq, Int.reduceNe, wk4, laidS, keepS, elem_K, LookV_eq]
      repeat (refine And.intro (by omega) ?_)
      refine icall_drop [] (rlook_call (lookAt m.e k).1 (lookAt m.e k).2) ⟨arg_look, trivial⟩ (.c _) ?_
      simp only [↓wt, wu, wk0, wk1, wk2, wk3, Nat.reduceAdd, Nat.reduceEqDiff, Nat.reduceLeDiff, Nat.reduceLT, Nat.reduceMul, Int.reduceLE, Int.reduceLT, Int.reduceEq, Int.reduceNe, wk4, laidS, keepS]
      have hz : LookOk (lookAt m.e k).1 (lookAt m.e k).2 → ¬ (lookAt m.e k).2 > 0 → lookAt m.e k = (0, 0) := fun h g => Prod.ext (by unfold LookOk at h; show _ = (0 : Int); omega) (by unfold LookOk at h; show _ = (0 : Int); omega)
      repeat' (first | (refine r_casesD (fun hp hb => ?_) (fun hp hb => ?_) <;> simp only [↓wt, wu, wk0, wk1, wk2, wk3, Nat.reduceAdd, Nat.reduceEqDiff, Nat.reduceLeDiff, Nat.reduceLT, Nat.reduceMul, Int.reduceLE, Int.reduceLT, Int.reduceEq, Int.reduceNe, wk4, laidS, keepS, elem_K, LookV_eq, e3, Try.results13, hb]) | (refine r_casesN (fun hp hb => ?_) (fun hp hb => ?_) <;> simp only [↓wt, wu, wk0, wk1, wk2, wk3, Nat.reduceAdd, Nat.reduceEqDiff, Nat.reduceLeDiff, Nat.reduceLT, Nat.reduceMul, Int.reduceLE, Int.reduceLT, Int.reduceEq, Int.reduceNe, wk4, laidS, keepS, elem_K, LookV_eq, e3, Try.results13, hb]) | (refine r_casesM (fun hp hb => ?_) (fun hp hb => ?_) <;> simp only [↓wt, wu, wk0, wk1, wk2, wk3, Nat.reduceAdd, Nat.reduceEqDiff, Nat.reduceLeDiff, Nat.reduceLT, Nat.reduceMul, Int.reduceLE, Int.reduceLT, Int.reduceEq, Int.reduceNe, wk4, laidS, keepS, elem_K, LookV_eq, e3, Try.results13, hb]) | (refine r_casesB (fun hp hb => ?_) (fun hp hb => ?_) <;> simp only [↓wt, wu, wk0, wk1, wk2, wk3, Nat.reduceAdd, Nat.reduceEqDiff, Nat.reduceLeDiff, Nat.reduceLT, Nat.reduceMul, Int.reduceLE, Int.reduceLT, Int.reduceEq, Int.reduceNe, wk4, laidS, keepS, elem_K, LookV_eq, e3, Try.results13, hb]) | (refine r_gcasesD (fun hp hb => ?_) (fun hp hb => ?_) <;> simp only [↓wt, wu, wk0, wk1, wk2, wk3, Nat.reduceAdd, Nat.reduceEqDiff, Nat.reduceLeDiff, Nat.reduceLT, Nat.reduceMul, Int.reduceLE, Int.reduceLT, Int.reduceEq, Int.reduceNe, wk4, laidS, keepS, elem_K, LookV_eq, e3, Try.results13, hb]) | (refine r_gcasesN (fun hp hb => ?_) (fun hp hb => ?_) <;> simp only [↓wt, wu, wk0, wk1, wk2, wk3, Nat.reduceAdd, Nat.reduceEqDiff, Nat.reduceLeDiff, Nat.reduceLT, Nat.reduceMul, Int.reduceLE, Int.reduceLT, Int.reduceEq, Int.reduceNe, wk4, laidS, keepS, elem_K, LookV_eq, e3, Try.results13, hb]) | (refine r_gcasesM (fun hp hb => ?_) (fun hp hb => ?_) <;> simp only [↓wt, wu, wk0, wk1, wk2, wk3, Nat.reduceAdd, Nat.reduceEqDiff, Nat.reduceLeDiff, Nat.reduceLT, Nat.reduceMul, Int.reduceLE, Int.reduceLT, Int.reduceEq, Int.reduceNe, wk4, laidS, keepS, elem_K, LookV_eq, e3, Try.results13, hb]) | (refine r_gcasesB (fun hp hb => ?_) (fun hp hb => ?_) <;> simp only [↓wt, wu, wk0, wk1, wk2, wk3, Nat.reduceAdd, Nat.reduceEqDiff, Nat.reduceLeDiff, Nat.reduceLT, Nat.reduceMul, Int.reduceLE, Int.reduceLT, Int.reduceEq, Int.reduceNe, wk4, laidS, keepS, elem_K, LookV_eq, e3, Try.results13, hb]) | ((with_reducible refine And.intro ?_ ?_); omega) | fail)
      · have hlk : ¬ (lookAt m.e k).2 ≤ 0 := by omega
        exact exp_bF (p := MayM c m) fun h => by
          have h7 := h.2.2.2.2.2.2.1
          have : m.f.toNat = k := by omega
          rw [this] at h7
          rw [h7] at hlk
          exact hlk (by decide)
      · rename_i hlk _ hkf _
        refine ⟨k + 1, ⟨by omega, fun j hj => ?_⟩, by omega, ?_⟩
        · rcases Nat.lt_or_ge j k with h | h
          · exact hG j h
          · have : j = k := by omega
            subst this
            exact ⟨hlk, fun _ => hz hlk hp⟩
        · simp only [↓wt, wu, wk0, wk1, wk2, wk3, wkf, Nat.reduceAdd, Nat.reduceEqDiff, Nat.reduceLeDiff, Nat.reduceLT, Nat.reduceMul, Int.reduceLE, Int.reduceLT, Int.reduceEq, Int.reduceNe, wk4, laidS, keepS, e3, underL_K, underL_R, under_e]
          try trivial
      · rename_i hlk _
        refine ⟨k + 1, ⟨by omega, fun j hj => ?_⟩, by omega, ?_⟩
        · rcases Nat.lt_or_ge j k with h | h
          · exact hG j h
          · have : j = k := by omega
            subst this
            exact ⟨hlk, fun h => absurd h hp⟩
        · simp only [↓wt, wu, wk0, wk1, wk2, wk3, wkf, Nat.reduceAdd, Nat.reduceEqDiff, Nat.reduceLeDiff, Nat.reduceLT, Nat.reduceMul, Int.reduceLE, Int.reduceLT, Int.reduceEq, Int.reduceNe, wk4, laidS, keepS, e3, underL_K, underL_R, under_e]
          try trivial
      · exact exp_bF (p := MayM c m) fun h => hp (h.2.2.2.2.2.2.2.1 k hkl)
    · have hk2 : k = m.e.length := by omega
      subst hk2
      refine icall_drop [] (rnote_call c m.f m.note) ⟨arg_conf', arg_c, arg_noteR, trivial⟩ (.c _) ?_
      simp only [↓wt, wu, wk0, wk1, wk2, wk3, Nat.reduceAdd, Nat.reduceEqDiff, Nat.reduceLeDiff, Nat.reduceLT, Nat.reduceMul, Int.reduceLE, Int.reduceLT, Int.reduceEq, Int.reduceNe, wk4, laidS, keepS, Try.results13]
      refine exp_bE ⟨fun h => ⟨⟨hmc, hf⟩, ho, by assumption, by have := h.1.1; show 1 ≤ m.ck; simp only [MailD.note] at this; omega, by assumption, by omega, (hG m.f.toNat (by have := hf.1; have := hf.2; omega)).2 (by have := hf.1; omega), fun j hj => (hG j hj).1, h⟩, fun h => h.2.2.2.2.2.2.2.2⟩
end Go.Ab
