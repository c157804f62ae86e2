/- coffersref02: Take. Rows: what they say. Rows: joined, by the document. .. -/
import Derived.Test.YtkikaagieknpdaaGreatTGr1
import Derived.Test.YtkikaagieknpdaaGreatTab
set_option linter.unusedSimpArgs false
set_option linter.unusedVariables false
set_option maxRecDepth 100000
open Nat (reduceAdd reduceMul reduceEqDiff reduceLeDiff)
open Int (reduceLE reduceLT reduceEq reduceNe)
namespace Go.Ab
open Go Go.Proofs
end Go.Ab
namespace Go.Ab
open Go Go.Proofs
def RowA (i u : Int) (o : List Int) : AV := .g [.c (.int .i64 i), .c (.int .i64 u), .l 1 (o.map encI)]
def rs_I (i u j v : Int) (o p : List Int) (k : Nat) : ASt :=
 ⟨[(2, .p 0 0 0 1), (3, .p 1 0 0 1), (4, .c (.bool false)), (5, .c (.int .i64 k))], ⟨[(0, ⟨112, 3, [RowA i u o]⟩), (1, ⟨112, 3, [RowA j v p]⟩)], 2⟩, 45⟩
theorem rsame_call (i u j v : Int) (o p : List Int) (hl : o.length < 1000000000) : PCall Tryz.prog 71 [RowA i u o, RowA j v p] (.c (.bool (decide (i = j ∧ u = v ∧ o = p)))) := by
 refine pcall_body tabOk Tryz.func71 rfl rfl (by rw [Tryz.ntmps71]; simp) ?_
 simp only [Tryz.ntmps71, RowA]
 cases f1 : decide ((o.length : Int) = (p.length : Int)) with
 | false =>
  have hr : decide (i = j ∧ u = v ∧ o = p) = false := decide_eq_false fun ⟨_, _, e⟩ => of_decide_eq_false f1 (by rw [e])
  simp only [↓wt, wz, reduceAdd, reduceMul, reduceEqDiff, reduceLeDiff, Nat.reduceLT, reduceLE, reduceLT, reduceEq, reduceNe, f1, hr, Tryz.results71]
  exact exp_c
 | true =>
  have g1 : o.length = p.length := by have := of_decide_eq_true f1; omega
  cases f2 : decide (i = j) with
  | false =>
   have hr : decide (i = j ∧ u = v ∧ o = p) = false := decide_eq_false fun ⟨e, _⟩ => of_decide_eq_false f2 e
   simp only [↓wt, wz, reduceAdd, reduceMul, reduceEqDiff, reduceLeDiff, Nat.reduceLT, reduceLE, reduceLT, reduceEq, reduceNe, f1, f2, hr, Tryz.results71]
   exact exp_c
  | true =>
   cases f3 : decide (u = v) with
   | false =>
    have hr : decide (i = j ∧ u = v ∧ o = p) = false := decide_eq_false fun ⟨_, e, _⟩ => of_decide_eq_false f3 e
    simp only [↓wt, wz, reduceAdd, reduceMul, reduceEqDiff, reduceLeDiff, Nat.reduceLT, reduceLE, reduceLT, reduceEq, reduceNe, f1, f2, f3, hr, Tryz.results71]
    exact exp_c
   | true =>
    simp only [↓wt, wz, reduceAdd, reduceMul, reduceEqDiff, reduceLeDiff, Nat.reduceLT, reduceLE, reduceLT, reduceEq, reduceNe, f1, f2, f3]
    refine loop_rule tabOk (rs_I i u j v o p) (fun k => k ≤ o.length ∧ o.take k = p.take k) (fun k => o.length - k) 0 ⟨by omega, rfl⟩ ?_ (fun _ => rfl) ?_
    · simp only [↓wt, wz, wkf, reduceAdd, reduceMul, reduceEqDiff, reduceLeDiff, Nat.reduceLT, reduceLE, reduceLT, reduceEq, reduceNe, rs_I, RowA]
    · rintro k ⟨h1, h2⟩
      simp only [rs_I, RowA]
      simp only [↓wt, wz, reduceAdd, reduceMul, reduceEqDiff, reduceLeDiff, Nat.reduceLT, reduceLE, reduceLT, reduceEq, reduceNe]
      refine r_casesP (fun hc => ?_) (fun hc => ?_)
      · simp only [↓wt, wz, reduceAdd, reduceMul, reduceEqDiff, reduceLeDiff, Nat.reduceLT, reduceLE, reduceLT, reduceEq, reduceNe]
        refine draw_rule tabOk mixed [0, 2, 0, 2, 2, 0, 2, 0, 2, 2, 0] [[], [0], [], [0, 1, 2], [0, 1, 2, 3], [], [5], [], [5, 6, 7], [5, 6, 7, 8], [0, 1, 2, 3, 4, 5, 6, 7, 8, 9]] (by kernel_rfl) ?_
        cases f4 : decide (o.getD k 0 = p.getD k 0) with
        | false =>
         have hr : decide (i = j ∧ u = v ∧ o = p) = false := decide_eq_false fun ⟨_, _, e⟩ => of_decide_eq_false f4 (by rw [e])
         simp only [↓wt, wz, reduceAdd, reduceMul, reduceEqDiff, reduceLeDiff, Nat.reduceLT, reduceLE, reduceLT, reduceEq, reduceNe, f4, hr, Tryz.results71]
         exact ⟨by omega, by omega, by omega, by omega, by omega, by omega, exp_c⟩
        | true =>
         have e1 : IntKind.i64.wrap ((k : Int) + 1) = ((k + 1 : Nat) : Int) := by rw [wrap_i64 (by omega) (by omega)]; omega
         simp only [↓wt, wz, reduceAdd, reduceMul, reduceEqDiff, reduceLeDiff, Nat.reduceLT, reduceLE, reduceLT, reduceEq, reduceNe, f4, e1]
         refine ⟨by omega, by omega, by omega, by omega, by omega, by omega, k + 1, ⟨by omega, (take_snoc_eq (d := 0) (by omega) (by omega)).2 ⟨h2, of_decide_eq_true f4⟩⟩, by omega, ?_⟩
         simp only [↓wt, wz, wkf, reduceAdd, reduceMul, reduceEqDiff, reduceLeDiff, Nat.reduceLT, reduceLE, reduceLT, reduceEq, reduceNe, rs_I, RowA, e1]
      · have hk : k = o.length := by omega
        have hop : o = p := by
         rw [hk, List.take_length, g1, List.take_length] at h2; exact h2
        have hr : decide (i = j ∧ u = v ∧ o = p) = true := decide_eq_true ⟨of_decide_eq_true f2, of_decide_eq_true f3, hop⟩
        simp only [↓wt, wz, reduceAdd, reduceMul, reduceEqDiff, reduceLeDiff, Nat.reduceLT, reduceLE, reduceLT, reduceEq, reduceNe, hr, Tryz.results71]
        exact exp_c
end Go.Ab
set_option linter.constructorNameAsVariable false
namespace Go.Ab
open Go Go.Proofs
end Go.Ab
namespace Go.Ab
open Go Go.Proofs
def Within (v m : Int) : Prop := 0 ≤ v ∧ v ≤ m
instance (v m : Int) : Decidable (Within v m) := by unfold Within; infer_instance
theorem within_call (v m : Int) : PCall Tryz.prog 101 [.c (.int .i64 v), .c (.int .i64 m)] (.c (.bool (decide (Within v m)))) := by
 refine pcall_body tabOk Tryz.func101 rfl rfl (by rw [Tryz.ntmps101]; simp) ?_
 simp only [Tryz.ntmps101]
 cases f1 : decide (v ≥ 0) with
 | true =>
  simp only [↓wt, wz, reduceAdd, reduceMul, reduceEqDiff, reduceLeDiff, Nat.reduceLT, reduceLE, reduceLT, reduceEq, reduceNe, f1, Tryz.results101]
  exact exp_b (p := Within v m) (by rw [decide_eq_decide]; unfold Within; have := of_decide_eq_true f1; omega)
 | false =>
  simp only [↓wt, wz, reduceAdd, reduceMul, reduceEqDiff, reduceLeDiff, Nat.reduceLT, reduceLE, reduceLT, reduceEq, reduceNe, f1, Tryz.results101]
  exact exp_b (p := Within v m) (decide_eq_false fun ⟨h1, h2⟩ => of_decide_eq_false f1 h1).symm
theorem mayf_call (v : Int) : PCall Tryz.prog 103 [.c (.int .i64 v)] (.c (.bool (decide (¬ Within v 1125899906842624)))) := by
 refine pcall_body tabOk Tryz.func103 rfl rfl (by rw [Tryz.ntmps103]; simp) ?_
 simp only [Tryz.ntmps103]
 simp only [↓wt, wz, reduceAdd, reduceMul, reduceEqDiff, reduceLeDiff, Nat.reduceLT, reduceLE, reduceLT, reduceEq, reduceNe]
 refine icall_drop [] (within_call _ _) ⟨arg_c, arg_c, trivial⟩ (.c _) ?_
 simp only [↓wt, wz, reduceAdd, reduceMul, reduceEqDiff, reduceLeDiff, Nat.reduceLT, reduceLE, reduceLT, reduceEq, reduceNe, Tryz.results103]
 exact exp_b (p := ¬ Within v 1125899906842624) (by simp)
def idxOf (p : Int → Bool) : List Int → Nat → Int
 | [], _ => -1
 | a :: r, k => if p a = true then k else idxOf p r (k + 1)
theorem idxOf_at {p : Int → Bool} : ∀ (o : List Int) (k n : Nat), k < o.length → (∀ j, j < k → p (o.getD j 0) = false) → p (o.getD k 0) = true → idxOf p o n = ((n + k : Nat) : Int)
 | a :: r, 0, n, _, _, h => by
  have : p a = true := h
  simp [idxOf, this]
 | a :: r, k + 1, n, hk, hb, h => by
  have h0 : p a = false := hb 0 (by omega)
  have := idxOf_at r k (n + 1) (by simpa using hk) (fun j hj => by have := hb (j + 1) (by omega); simpa using this) (by simpa using h)
  simp only [idxOf, h0, this, Bool.false_eq_true, if_false]
  omega
theorem idxOf_none {p : Int → Bool} : ∀ (o : List Int) (n : Nat), (∀ j, j < o.length → p (o.getD j 0) = false) → idxOf p o n = -1
 | [], n, _ => rfl
 | a :: r, n, h => by
  have h0 : p a = false := h 0 (by simp)
  simp only [idxOf, h0, Bool.false_eq_true, if_false]
  exact idxOf_none r (n + 1) fun j hj => by have := h (j + 1) (by simpa using hj); simpa using this
theorem idxOf_iff {p : Int → Bool} : ∀ (o : List Int) (n : Nat), 0 ≤ idxOf p o n ↔ o.any p = true
 | [], n => by simp [idxOf]
 | a :: r, n => by
  unfold idxOf
  rw [List.any_cons]
  by_cases h : p a = true
  · rw [if_pos h, h]; simp
  · rw [if_neg h, idxOf_iff r (n + 1)]
    have h' : p a = false := by simpa using h
    rw [h', Bool.false_or]
theorem idxOf_any {p : Int → Bool} (o : List Int) (n : Nat) : decide (idxOf p o n ≥ 0) = o.any p := by
 rw [Bool.eq_iff_iff, decide_eq_true_iff]; exact idxOf_iff o n
def if_I (o : List Int) (k : Nat) : ASt :=
 ⟨[(0, .l 1 (o.map encI)), (1, .f 103 []), (4, .c (.int .i64 0)), (7, .c (.int .i64 o.length)), (8, .c (.int .i64 k))], ⟨[], 0⟩, 19⟩
def badV (v : Int) : Bool := decide (¬ Within v 1125899906842624)
theorem indexf_call (o : List Int) (hl : o.length < 1000000000) : PCall Tryz.prog 113 [.l 1 (o.map encI), .f 103 []] (.c (.int .i64 (idxOf badV o 0))) := by
 refine pcall_body tabOk Tryz.func113 rfl rfl (by rw [Tryz.ntmps113]; simp) ?_
 simp only [Tryz.ntmps113]
 simp only [↓wt, wz, reduceAdd, reduceMul, reduceEqDiff, reduceLeDiff, Nat.reduceLT, reduceLE, reduceLT, reduceEq, reduceNe]
 refine loop_rule tabOk (if_I o) (fun k => k ≤ o.length ∧ ∀ n, n < k → badV (o.getD n 0) = false) (fun k => o.length - k) 0 ⟨by omega, fun n h => by omega⟩ ?_ (fun _ => rfl) ?_
 · simp only [↓wt, wz, wkf, reduceAdd, reduceMul, reduceEqDiff, reduceLeDiff, Nat.reduceLT, reduceLE, reduceLT, reduceEq, reduceNe, if_I, under_f0]
 · rintro k ⟨h1, h2⟩
   simp only [if_I]
   simp only [↓wt, wz, reduceAdd, reduceMul, reduceEqDiff, reduceLeDiff, Nat.reduceLT, reduceLE, reduceLT, reduceEq, reduceNe]
   refine r_casesP (fun hc => ?_) (fun hc => ?_)
   · simp only [↓wt, wz, reduceAdd, reduceMul, reduceEqDiff, reduceLeDiff, Nat.reduceLT, reduceLE, reduceLT, reduceEq, reduceNe, r_callV]
     repeat (refine And.intro (by omega) ?_)
     refine icall_drop [] (mayf_call _) ⟨arg_c, trivial⟩ (.c _) ?_
     have e1 : IntKind.i64.wrap ((k : Int) + 1) = ((k + 1 : Nat) : Int) := by rw [wrap_i64 (by omega) (by omega)]; omega
     cases f1 : decide (¬ Within (o.getD k 0) 1125899906842624) with
     | true =>
      simp only [↓wt, wz, reduceAdd, reduceMul, reduceEqDiff, reduceLeDiff, Nat.reduceLT, reduceLE, reduceLT, reduceEq, reduceNe, f1, Tryz.results113]
      rw [idxOf_at o k 0 (by omega) h2 f1, Nat.zero_add]
      exact exp_c
     | false =>
      simp only [↓wt, wz, reduceAdd, reduceMul, reduceEqDiff, reduceLeDiff, Nat.reduceLT, reduceLE, reduceLT, reduceEq, reduceNe, f1, e1]
      refine ⟨k + 1, ⟨by omega, fun n hn => ?_⟩, by omega, ?_⟩
      · rcases Nat.lt_or_ge n k with h | h
        · exact h2 n h
        · have : n = k := by omega
          subst this; exact f1
      · simp only [↓wt, wz, wkf, reduceAdd, reduceMul, reduceEqDiff, reduceLeDiff, Nat.reduceLT, reduceLE, reduceLT, reduceEq, reduceNe, if_I, e1, under_f0]
   · simp only [↓wt, wz, reduceAdd, reduceMul, reduceEqDiff, reduceLeDiff, Nat.reduceLT, reduceLE, reduceLT, reduceEq, reduceNe, Tryz.results113]
     rw [idxOf_none o 0 fun j hj => h2 j (by omega)]
     exact exp_c
theorem containsf_call (o : List Int) (hl : o.length < 1000000000) : PCall Tryz.prog 102 [.l 1 (o.map encI), .f 103 []] (.c (.bool (o.any badV))) := by
 refine pcall_body tabOk Tryz.func102 rfl rfl (by rw [Tryz.ntmps102]; simp) ?_
 simp only [Tryz.ntmps102]
 simp only [↓wt, wz, reduceAdd, reduceMul, reduceEqDiff, reduceLeDiff, Nat.reduceLT, reduceLE, reduceLT, reduceEq, reduceNe]
 refine icall_drop [] (indexf_call o hl) ⟨arg_l (pureI _), arg_f, trivial⟩ (.c _) ?_
 simp only [↓wt, wz, reduceAdd, reduceMul, reduceEqDiff, reduceLeDiff, Nat.reduceLT, reduceLE, reduceLT, reduceEq, reduceNe, idxOf_any, Tryz.results102]
 exact exp_c
def MayR (i u : Int) (o : List Int) (n w : Int) : Prop :=
 (¬ w < 0 ∧ ¬ w ≥ n) ∧ (o.length : Int) = n ∧ Within i 1099511627776 ∧ Within u 1099511627776 ∧ o.getD w.toNat 0 = 0 ∧ ∀ v ∈ o, Within v 1125899906842624
instance (i u : Int) (o : List Int) (n w : Int) : Decidable (MayR i u o n w) := by unfold MayR; infer_instance
theorem may_call (i u : Int) (o : List Int) (n w : Int) (hl : o.length < 1000000000) : PCall Tryz.prog 74 [RowA i u o, .c (.int .i64 n), .c (.int .i64 w)] (.c (.bool (decide (MayR i u o n w)))) := by
 refine pcall_body tabOk Tryz.func74 rfl rfl (by rw [Tryz.ntmps74]; simp) ?_
 simp only [Tryz.ntmps74, RowA]
 cases f1 : decide (w < 0) with
 | true =>
  simp only [↓wt, wz, reduceAdd, reduceMul, reduceEqDiff, reduceLeDiff, Nat.reduceLT, reduceLE, reduceLT, reduceEq, reduceNe, f1, Tryz.results74]
  exact exp_b (p := MayR i u o n w) (decide_eq_false fun h => h.1.1 (of_decide_eq_true f1)).symm
 | false =>
 simp only [↓wt, wz, reduceAdd, reduceMul, reduceEqDiff, reduceLeDiff, Nat.reduceLT, reduceLE, reduceLT, reduceEq, reduceNe, f1]
 cases f2 : decide (w ≥ n) with
 | true =>
  simp only [↓wt, wz, reduceAdd, reduceMul, reduceEqDiff, reduceLeDiff, Nat.reduceLT, reduceLE, reduceLT, reduceEq, reduceNe, f2, Tryz.results74]
  exact exp_b (p := MayR i u o n w) (decide_eq_false fun h => h.1.2 (of_decide_eq_true f2)).symm
 | false =>
 simp only [↓wt, wz, reduceAdd, reduceMul, reduceEqDiff, reduceLeDiff, Nat.reduceLT, reduceLE, reduceLT, reduceEq, reduceNe, f2]
 cases f3 : decide ((o.length : Int) = n) with
 | false =>
  simp only [↓wt, wz, reduceAdd, reduceMul, reduceEqDiff, reduceLeDiff, Nat.reduceLT, reduceLE, reduceLT, reduceEq, reduceNe, f3, Tryz.results74]
  exact exp_b (p := MayR i u o n w) (decide_eq_false fun h => of_decide_eq_false f3 h.2.1).symm
 | true =>
 simp only [↓wt, wz, reduceAdd, reduceMul, reduceEqDiff, reduceLeDiff, Nat.reduceLT, reduceLE, reduceLT, reduceEq, reduceNe, f3]
 refine icall_keep [] (within_call _ _) ⟨arg_c, arg_c, trivial⟩ (.c _) ?_
 cases f4 : decide (Within i 1099511627776) with
 | false =>
  simp only [↓wt, wz, reduceAdd, reduceMul, reduceEqDiff, reduceLeDiff, Nat.reduceLT, reduceLE, reduceLT, reduceEq, reduceNe, f4, Tryz.results74]
  exact exp_b (p := MayR i u o n w) (decide_eq_false fun h => of_decide_eq_false f4 h.2.2.1).symm
 | true =>
 simp only [↓wt, wz, reduceAdd, reduceMul, reduceEqDiff, reduceLeDiff, Nat.reduceLT, reduceLE, reduceLT, reduceEq, reduceNe, f4]
 refine icall_keep [] (within_call _ _) ⟨arg_c, arg_c, trivial⟩ (.c _) ?_
 cases f5 : decide (Within u 1099511627776) with
 | false =>
  simp only [↓wt, wz, reduceAdd, reduceMul, reduceEqDiff, reduceLeDiff, Nat.reduceLT, reduceLE, reduceLT, reduceEq, reduceNe, f5, Tryz.results74]
  exact exp_b (p := MayR i u o n w) (decide_eq_false fun h => of_decide_eq_false f5 h.2.2.2.1).symm
 | true =>
 simp only [↓wt, wz, reduceAdd, reduceMul, reduceEqDiff, reduceLeDiff, Nat.reduceLT, reduceLE, reduceLT, reduceEq, reduceNe, f5]
 have g1 := of_decide_eq_false f1
 have g2 := of_decide_eq_false f2
 have g3 := of_decide_eq_true f3
 refine ⟨by omega, by omega, by omega, ?_⟩
 cases f6 : decide (o.getD w.toNat 0 = 0) with
 | false =>
  simp only [↓wt, wz, reduceAdd, reduceMul, reduceEqDiff, reduceLeDiff, Nat.reduceLT, reduceLE, reduceLT, reduceEq, reduceNe, f6, Tryz.results74]
  exact exp_b (p := MayR i u o n w) (decide_eq_false fun h => of_decide_eq_false f6 h.2.2.2.2.1).symm
 | true =>
 simp only [↓wt, wz, reduceAdd, reduceMul, reduceEqDiff, reduceLeDiff, Nat.reduceLT, reduceLE, reduceLT, reduceEq, reduceNe, f6]
 refine icall_drop [] (containsf_call o hl) ⟨arg_l (pureI _), arg_f, trivial⟩ (.c _) ?_
 simp only [↓wt, wz, reduceAdd, reduceMul, reduceEqDiff, reduceLeDiff, Nat.reduceLT, reduceLE, reduceLT, reduceEq, reduceNe, Tryz.results74]
 refine exp_b (p := MayR i u o n w) ?_
 have ha : o.any badV = decide (¬ ∀ v ∈ o, Within v 1125899906842624) := by
  rw [Bool.eq_iff_iff]; simp [List.any_eq_true, badV]
 rw [ha]
 by_cases h : ∀ v ∈ o, Within v 1125899906842624
 · rw [decide_eq_false (fun k => k h), decide_eq_true]; · rfl
   exact ⟨⟨g1, g2⟩, g3, of_decide_eq_true f4, of_decide_eq_true f5, of_decide_eq_true f6, h⟩
 · rw [decide_eq_true h, decide_eq_false]; · rfl
   exact fun k => h k.2.2.2.2.2
end Go.Ab
