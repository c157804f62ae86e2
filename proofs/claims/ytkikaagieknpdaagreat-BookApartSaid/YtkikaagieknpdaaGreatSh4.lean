/- Rows: may it be one: the document's. -/
import Derived.Test.YtkikaagieknpdaaGreatTNb5
set_option linter.unusedSimpArgs false
set_option linter.unusedVariables false
set_option linter.constructorNameAsVariable false
set_option maxRecDepth 100000
open Nat (reduceAdd reduceMul reduceEqDiff reduceLeDiff)
open Int (reduceLE reduceLT reduceEq reduceNe)
namespace Go.Ab
open Go Go.Proofs
def rm_I (i u w : Int) (o : List Int) (k : Nat) : ASt :=
 ⟨[(1, .c (.int .i64 o.length)), (2, .c (.int .i64 w)), (3, .p 0 0 0 1), (6, .c (.bool false)), (7, .c (.int .i64 k))], ⟨[(0, ⟨112, 3, [RowA i u o]⟩)], 1⟩, 74⟩
set_option maxHeartbeats 2000000 in
theorem rmay_call (i u : Int) (o : List Int) (n w : Int) (hl : o.length < 1000000000) : PCall Tryz.prog 89 [RowA i u o, .c (.int .i64 n), .c (.int .i64 w)] (.c (.bool (decide (MayR i u o n w)))) := by
 refine pcall_body tabOk Tryz.func89 rfl rfl (by rw [Tryz.ntmps89]; simp) ?_
 simp only [Tryz.ntmps89, RowA]
 cases f1 : decide (w < 0) with
 | true =>
  simp only [↓wt, wz, reduceAdd, reduceMul, reduceEqDiff, reduceLeDiff, Nat.reduceLT, reduceLE, reduceLT, reduceEq, reduceNe, f1, Tryz.results89]
  exact exp_b (p := MayR i u o n w) (decide_eq_false fun h => h.1.1 (of_decide_eq_true f1)).symm
 | false =>
 simp only [↓wt, wz, reduceAdd, reduceMul, reduceEqDiff, reduceLeDiff, Nat.reduceLT, reduceLE, reduceLT, reduceEq, reduceNe, f1]
 cases f2 : decide (w ≥ n) with
 | true =>
  simp only [↓wt, wz, reduceAdd, reduceMul, reduceEqDiff, reduceLeDiff, Nat.reduceLT, reduceLE, reduceLT, reduceEq, reduceNe, f2, Tryz.results89]
  exact exp_b (p := MayR i u o n w) (decide_eq_false fun h => h.1.2 (of_decide_eq_true f2)).symm
 | false =>
 simp only [↓wt, wz, reduceAdd, reduceMul, reduceEqDiff, reduceLeDiff, Nat.reduceLT, reduceLE, reduceLT, reduceEq, reduceNe, f2]
 cases f3 : decide ((o.length : Int) = n) with
 | false =>
  simp only [↓wt, wz, reduceAdd, reduceMul, reduceEqDiff, reduceLeDiff, Nat.reduceLT, reduceLE, reduceLT, reduceEq, reduceNe, f3, Tryz.results89]
  exact exp_b (p := MayR i u o n w) (decide_eq_false fun h => of_decide_eq_false f3 h.2.1).symm
 | true =>
 simp only [↓wt, wz, reduceAdd, reduceMul, reduceEqDiff, reduceLeDiff, Nat.reduceLT, reduceLE, reduceLT, reduceEq, reduceNe, f3]
 cases f4 : decide (i < 0) with
 | true =>
  simp only [↓wt, wz, reduceAdd, reduceMul, reduceEqDiff, reduceLeDiff, Nat.reduceLT, reduceLE, reduceLT, reduceEq, reduceNe, f4, Tryz.results89]
  exact exp_b (p := MayR i u o n w) (decide_eq_false fun h => by have := h.2.2.1.1; have := of_decide_eq_true f4; omega).symm
 | false =>
 simp only [↓wt, wz, reduceAdd, reduceMul, reduceEqDiff, reduceLeDiff, Nat.reduceLT, reduceLE, reduceLT, reduceEq, reduceNe, f4]
 cases f5 : decide (i > 1099511627776) with
 | true =>
  simp only [↓wt, wz, reduceAdd, reduceMul, reduceEqDiff, reduceLeDiff, Nat.reduceLT, reduceLE, reduceLT, reduceEq, reduceNe, f5, Tryz.results89]
  exact exp_b (p := MayR i u o n w) (decide_eq_false fun h => by have := h.2.2.1.2; have := of_decide_eq_true f5; omega).symm
 | false =>
 simp only [↓wt, wz, reduceAdd, reduceMul, reduceEqDiff, reduceLeDiff, Nat.reduceLT, reduceLE, reduceLT, reduceEq, reduceNe, f5]
 cases f6 : decide (u < 0) with
 | true =>
  simp only [↓wt, wz, reduceAdd, reduceMul, reduceEqDiff, reduceLeDiff, Nat.reduceLT, reduceLE, reduceLT, reduceEq, reduceNe, f6, Tryz.results89]
  exact exp_b (p := MayR i u o n w) (decide_eq_false fun h => by have := h.2.2.2.1.1; have := of_decide_eq_true f6; omega).symm
 | false =>
 simp only [↓wt, wz, reduceAdd, reduceMul, reduceEqDiff, reduceLeDiff, Nat.reduceLT, reduceLE, reduceLT, reduceEq, reduceNe, f6]
 cases f7 : decide (u > 1099511627776) with
 | true =>
  simp only [↓wt, wz, reduceAdd, reduceMul, reduceEqDiff, reduceLeDiff, Nat.reduceLT, reduceLE, reduceLT, reduceEq, reduceNe, f7, Tryz.results89]
  exact exp_b (p := MayR i u o n w) (decide_eq_false fun h => by have := h.2.2.2.1.2; have := of_decide_eq_true f7; omega).symm
 | false =>
 have g1 := of_decide_eq_false f1
 have g2 := of_decide_eq_false f2
 have g3 := of_decide_eq_true f3
 have g4 := of_decide_eq_false f4
 have g5 := of_decide_eq_false f5
 have g6 := of_decide_eq_false f6
 have g7 := of_decide_eq_false f7
 clear f1 f2 f3 f4 f5 f6 f7
 subst g3
 simp only [↓wt, wz, reduceAdd, reduceMul, reduceEqDiff, reduceLeDiff, Nat.reduceLT, reduceLE, reduceLT, reduceEq, reduceNe]
 refine loop_rule tabOk (rm_I i u w o) (fun k => k ≤ o.length ∧ ∀ j, j < k → Within (o.getD j 0) 1125899906842624 ∧ ((j : Int) = w → o.getD j 0 = 0)) (fun k => o.length - k) 0 ⟨by omega, fun n h => by omega⟩ ?_ (fun _ => rfl) ?_
 · simp only [↓wt, wz, wkf, reduceAdd, reduceMul, reduceEqDiff, reduceLeDiff, Nat.reduceLT, reduceLE, reduceLT, reduceEq, reduceNe, rm_I, RowA]
 · rintro k ⟨h1, h2⟩
   simp only [rm_I, RowA]
   simp only [↓wt, wz, reduceAdd, reduceMul, reduceEqDiff, reduceLeDiff, Nat.reduceLT, reduceLE, reduceLT, reduceEq, reduceNe]
   have hno : ∀ j, j < o.length → ¬ (Within (o.getD j 0) 1125899906842624 ∧ ((j : Int) = w → o.getD j 0 = 0)) → ¬ MayR i u o o.length w := fun j hj hb h => hb ⟨h.2.2.2.2.2 _ (by rw [List.getD_eq_getElem?_getD, List.getElem?_eq_getElem hj]; exact List.getElem_mem hj), fun e => by
    have := h.2.2.2.2.1
    rw [← e] at this; simpa using this⟩
   refine r_casesP (fun hc => ?_) (fun hc => ?_)
   · have hk : k < o.length := by omega
     have e1 : IntKind.i64.wrap ((k : Int) + 1) = ((k + 1 : Nat) : Int) := by rw [wrap_i64 (by omega) (by omega)]; omega
     simp only [↓wt, wz, reduceAdd, reduceMul, reduceEqDiff, reduceLeDiff, Nat.reduceLT, reduceLE, reduceLT, reduceEq, reduceNe]
     repeat (refine And.intro (by omega) ?_)
     cases f1 : decide (o.getD k 0 < 0) with
     | true =>
      simp only [↓wt, wz, reduceAdd, reduceMul, reduceEqDiff, reduceLeDiff, Nat.reduceLT, reduceLE, reduceLT, reduceEq, reduceNe, f1, Tryz.results89]
      repeat (refine And.intro (by omega) ?_)
      exact exp_b (p := MayR i u o o.length w) (decide_eq_false (hno k hk fun h => by have := h.1.1; have := of_decide_eq_true f1; omega)).symm
     | false =>
     simp only [↓wt, wz, reduceAdd, reduceMul, reduceEqDiff, reduceLeDiff, Nat.reduceLT, reduceLE, reduceLT, reduceEq, reduceNe, f1]
     repeat (refine And.intro (by omega) ?_)
     cases f2 : decide (o.getD k 0 > 1125899906842624) with
     | true =>
      simp only [↓wt, wz, reduceAdd, reduceMul, reduceEqDiff, reduceLeDiff, Nat.reduceLT, reduceLE, reduceLT, reduceEq, reduceNe, f2, Tryz.results89]
      repeat (refine And.intro (by omega) ?_)
      exact exp_b (p := MayR i u o o.length w) (decide_eq_false (hno k hk fun h => by have := h.1.2; have := of_decide_eq_true f2; omega)).symm
     | false =>
     have q1 := of_decide_eq_false f1
     have q2 := of_decide_eq_false f2
     have hgo : ((k : Int) = w → o.getD k 0 = 0) → ∀ j, j < k + 1 → Within (o.getD j 0) 1125899906842624 ∧ ((j : Int) = w → o.getD j 0 = 0) := fun hx j hj => by
      rcases Nat.lt_or_ge j k with h | h
      · exact h2 j h
      · have : j = k := by omega
        subst this; exact ⟨⟨by omega, by omega⟩, hx⟩
     simp only [↓wt, wz, reduceAdd, reduceMul, reduceEqDiff, reduceLeDiff, Nat.reduceLT, reduceLE, reduceLT, reduceEq, reduceNe, f2]
     cases f3 : decide ((k : Int) = w) with
     | false =>
      simp only [↓wt, wz, reduceAdd, reduceMul, reduceEqDiff, reduceLeDiff, Nat.reduceLT, reduceLE, reduceLT, reduceEq, reduceNe, f3, e1]
      repeat (refine And.intro (by omega) ?_)
      refine ⟨k + 1, ⟨by omega, hgo fun e => absurd e (of_decide_eq_false f3)⟩, by omega, ?_⟩
      simp only [↓wt, wz, wkf, reduceAdd, reduceMul, reduceEqDiff, reduceLeDiff, Nat.reduceLT, reduceLE, reduceLT, reduceEq, reduceNe, rm_I, RowA, e1]
     | true =>
      simp only [↓wt, wz, reduceAdd, reduceMul, reduceEqDiff, reduceLeDiff, Nat.reduceLT, reduceLE, reduceLT, reduceEq, reduceNe, f3]
      repeat (refine And.intro (by omega) ?_)
      cases f4 : decide (o.getD k 0 > 0) with
      | true =>
       simp only [↓wt, wz, reduceAdd, reduceMul, reduceEqDiff, reduceLeDiff, Nat.reduceLT, reduceLE, reduceLT, reduceEq, reduceNe, f4, Tryz.results89]
       repeat (refine And.intro (by omega) ?_)
       exact exp_b (p := MayR i u o o.length w) (decide_eq_false (hno k hk fun h => by have := h.2 (of_decide_eq_true f3); have := of_decide_eq_true f4; omega)).symm
      | false =>
       simp only [↓wt, wz, reduceAdd, reduceMul, reduceEqDiff, reduceLeDiff, Nat.reduceLT, reduceLE, reduceLT, reduceEq, reduceNe, f4, e1]
       repeat (refine And.intro (by omega) ?_)
       refine ⟨k + 1, ⟨by omega, hgo fun e => by have := of_decide_eq_false f4; omega⟩, by omega, ?_⟩
       simp only [↓wt, wz, wkf, reduceAdd, reduceMul, reduceEqDiff, reduceLeDiff, Nat.reduceLT, reduceLE, reduceLT, reduceEq, reduceNe, rm_I, RowA, e1]
   · simp only [↓wt, wz, reduceAdd, reduceMul, reduceEqDiff, reduceLeDiff, Nat.reduceLT, reduceLE, reduceLT, reduceEq, reduceNe, Tryz.results89]
     refine exp_b (p := MayR i u o o.length w) (decide_eq_true ?_).symm
     have hw : ((w.toNat : Nat) : Int) = w := by omega
     refine ⟨⟨g1, g2⟩, rfl, ⟨by omega, by omega⟩, ⟨by omega, by omega⟩, (h2 w.toNat (by omega)).2 hw, fun v hv => ?_⟩
     obtain ⟨j, hj, rfl⟩ := List.getElem_of_mem hv
     have := (h2 j (by omega)).1
     rwa [List.getD_eq_getElem?_getD, List.getElem?_eq_getElem hj] at this
end Go.Ab
