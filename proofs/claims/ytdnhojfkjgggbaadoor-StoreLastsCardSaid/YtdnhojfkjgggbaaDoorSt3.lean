/- Store: a state begun. -/
import Derived.Test.YtdnhojfkjgggbaaDoorSt2
set_option linter.unusedSimpArgs false
set_option linter.unusedVariables false
set_option linter.constructorNameAsVariable false
set_option maxRecDepth 100000
namespace Go.Ab
open Go Go.Proofs Go.RowKit

/-- What is begun: the tape, whether it is to be turned, the refusal. -/
noncomputable def begR (t : Tape4) (x : List UInt8) (m : Int) : Tape4 × Bool × Int :=
  if opB t = false then (t, false, 1) else if m < ((frL x).length : Int) then (t, false, 6) else
    if wrC t (frL x) ≠ 0 then (t, false, 6) else
      (wrT t (decide (m < ((t.a.length + (frL x).length : Nat) : Int))) (frL x), decide (m < ((t.a.length + (frL x).length : Nat) : Int)), 0)
noncomputable def begV (t : Tape4) (x : List UInt8) (m : Int) : AV := .t [tv (begR t x m).1, .c (.bool (begR t x m).2.1), .c (.int .i64 (begR t x m).2.2)]
theorem exp_beg {M : Mem} {t : Tape4} {x : List UInt8} {m : Int} {u : Tape4} {b : Bool} {k : Int} (h : begR t x m = (u, b, k)) :
    Exp M (.t [.g [.l 1 (u.a.map encB), .l 1 (u.b.map encB), .l 1 (u.c.map encB), .l 1 (u.d.map encB)], .c (.bool b), .c (.int .i64 k)]) (begV t x m) := by
  rw [begV, h]
  exact exp_t ⟨⟨weak_g, arg_tape (M := M) (ids := []) |>.2.2.2⟩, ⟨weak_c, .c _⟩, ⟨weak_c, .c _⟩, trivial⟩
theorem wiT_op {t : Tape4} (h : t = opT t) : wiT t = t := by
  obtain ⟨a, b, c, d⟩ := t
  have h1 : c = [] := congrArg Tape4.c h
  have h2 : d = [] := congrArg Tape4.d h
  simp only [wiT, h1, h2]
set_option maxHeartbeats 4000000 in
theorem begin_call (t : Tape4) (x : List UInt8) (m : Int) (ht : t.Lt) (hx : x.length ≤ 100000) : PCall Tryd.prog 40 [tv t, Bs x, .c (.int .i64 m)] (begV t x m) := by
  have hfl := frL_len x
  have hpl := putL_len10 (n := x.length) (by omega)
  have ho := opB_iff (t := t)
  have hw := wiT_op (t := t)
  have m0 := (fput_call [] x (by simp) (by omega)).frz
  rw [List.nil_append] at m0
  change PCall _ _ _ (Bs (frL x)) at m0
  have m1 := opened_call t ht
  have m2 := behind_call t (frL x) ht (by omega)
  have m3 := anew_call t (frL x) ht (by omega)
  obtain ⟨h1, h2, h3, h4⟩ := ht
  refine pcall_body tabOk Tryd.func40 rfl rfl (by rw [Tryd.ntmps40]; simp) ?_
  simp only [Tryd.ntmps40, tv, TapeA, Bs]
  simp only [↓wt, wu, wk0, wk1, wk2, wk3, Nat.reduceAdd, Nat.reduceEqDiff, Nat.reduceLeDiff, Nat.reduceLT, Nat.reduceMul, Int.reduceLE, Int.reduceLT, Int.reduceEq, Int.reduceNe, wk4, laidS, keepS]
  refine freeze_rule 0 [1, 2, 3, 6] (by simp only [↓wt, wu, wk0, wk1, wk2, wk3, Nat.reduceAdd, Nat.reduceEqDiff, Nat.reduceLeDiff, Nat.reduceLT, Nat.reduceMul, Int.reduceLE, Int.reduceLT, Int.reduceEq, Int.reduceNe, wk4, laidS, keepS]; (try (repeat' (first | (exact fun _ => by simp only [pureL_eq, underL_cons, underL_nil, AV.cells, under_l, under_c, under_g, under_e, under_f, underL_B, underL_I, underL_Bs, under_Bs, List.mem_cons, List.not_mem_nil, or_false, forall_eq_or_imp, forall_eq, and_self, and_true, true_and]) | ((with_reducible refine And.intro ?_ ?_)) | (intro _) | omega | (simp only [pureL_eq, underL_cons, underL_nil, AV.cells, under_l, under_c, under_g, under_e, under_f, underL_B, underL_I, underL_Bs, under_Bs, List.mem_cons, List.not_mem_nil, or_false, forall_eq_or_imp, forall_eq, and_self, and_true, true_and])))); done) (by simp only [↓wt, wu, wk0, wk1, wk2, wk3, Nat.reduceAdd, Nat.reduceEqDiff, Nat.reduceLeDiff, Nat.reduceLT, Nat.reduceMul, Int.reduceLE, Int.reduceLT, Int.reduceEq, Int.reduceNe, wk4, laidS, keepS]; (try (repeat' (first | (exact fun _ => by simp only [pureL_eq, underL_cons, underL_nil, AV.cells, under_l, under_c, under_g, under_e, under_f, underL_B, underL_I, underL_Bs, under_Bs, List.mem_cons, List.not_mem_nil, or_false, forall_eq_or_imp, forall_eq, and_self, and_true, true_and]) | ((with_reducible refine And.intro ?_ ?_)) | (intro _) | omega | (simp only [pureL_eq, underL_cons, underL_nil, AV.cells, under_l, under_c, under_g, under_e, under_f, underL_B, underL_I, underL_Bs, under_Bs, List.mem_cons, List.not_mem_nil, or_false, forall_eq_or_imp, forall_eq, and_self, and_true, true_and])))); done) ?_; simp only [↓wt, wu, wk0, wk1, wk2, wk3, Nat.reduceAdd, Nat.reduceEqDiff, Nat.reduceLeDiff, Nat.reduceLT, Nat.reduceMul, Int.reduceLE, Int.reduceLT, Int.reduceEq, Int.reduceNe, wk4, laidS, keepS]
  refine draw_rule tabOk mixed [0, 0, 3, 3, 1, 1] [[], [], [1], [0, 1, 2], [], [0, 1, 2, 3, 4]] (by kernel_rfl) ?_
  simp only [↓wt, wu, wk0, wk1, wk2, wk3, Nat.reduceAdd, Nat.reduceEqDiff, Nat.reduceLeDiff, Nat.reduceLT, Nat.reduceMul, Int.reduceLE, Int.reduceLT, Int.reduceEq, Int.reduceNe, wk4, laidS, keepS]
  refine d_pureC (fun M0 => icall_drop [] m0 ⟨arg_nil, arg_l (pureB _), trivial⟩ okR_Bs ⟨rfl, rfl⟩) ?_
  simp only [↓wt, wu, wk0, wk1, wk2, wk3, Nat.reduceAdd, Nat.reduceEqDiff, Nat.reduceLeDiff, Nat.reduceLT, Nat.reduceMul, Int.reduceLE, Int.reduceLT, Int.reduceEq, Int.reduceNe, wk4, laidS, keepS, Bs]
  refine d_pureX (fun M0 => by simp only [↓wt, wu, wk0, wk1, wk2, wk3, Nat.reduceAdd, Nat.reduceEqDiff, Nat.reduceLeDiff, Nat.reduceLT, Nat.reduceMul, Int.reduceLE, Int.reduceLT, Int.reduceEq, Int.reduceNe, wk4, laidS, keepS, zx_build]; rfl) ?_
  simp only [↓wt, wu, wk0, wk1, wk2, wk3, Nat.reduceAdd, Nat.reduceEqDiff, Nat.reduceLeDiff, Nat.reduceLT, Nat.reduceMul, Int.reduceLE, Int.reduceLT, Int.reduceEq, Int.reduceNe, wk4, laidS, keepS]
  refine d_heavyX (by simp only [↓wt, wu, wk0, wk1, wk2, wk3, Nat.reduceAdd, Nat.reduceEqDiff, Nat.reduceLeDiff, Nat.reduceLT, Nat.reduceMul, Int.reduceLE, Int.reduceLT, Int.reduceEq, Int.reduceNe, wk4, laidS, keepS]; (repeat (first | refine And.intro (by omega) ?_ | refine And.intro (pureB _) ?_ | refine And.intro (pureI _) ?_ | refine And.intro ⟨pureB _, pureB _⟩ ?_ | refine And.intro ⟨pureB _, pureI _⟩ ?_ | refine And.intro ⟨pureI _, pureB _⟩ ?_ | refine And.intro ⟨pureI _, pureI _⟩ ?_)); exact ⟨rfl, rfl⟩) ?_
  simp only [↓wt, wu, wk0, wk1, wk2, wk3, Nat.reduceAdd, Nat.reduceEqDiff, Nat.reduceLeDiff, Nat.reduceLT, Nat.reduceMul, Int.reduceLE, Int.reduceLT, Int.reduceEq, Int.reduceNe, wk4, laidS, keepS]
  refine d_heavyX (by simp only [↓wt, wu, wk0, wk1, wk2, wk3, Nat.reduceAdd, Nat.reduceEqDiff, Nat.reduceLeDiff, Nat.reduceLT, Nat.reduceMul, Int.reduceLE, Int.reduceLT, Int.reduceEq, Int.reduceNe, wk4, laidS, keepS]; (repeat (first | refine And.intro (by omega) ?_ | refine And.intro (pureB _) ?_ | refine And.intro (pureI _) ?_ | refine And.intro ⟨pureB _, pureB _⟩ ?_ | refine And.intro ⟨pureB _, pureI _⟩ ?_ | refine And.intro ⟨pureI _, pureB _⟩ ?_ | refine And.intro ⟨pureI _, pureI _⟩ ?_)); exact ⟨rfl, rfl⟩) ?_
  simp only [↓wt, wu, wk0, wk1, wk2, wk3, Nat.reduceAdd, Nat.reduceEqDiff, Nat.reduceLeDiff, Nat.reduceLT, Nat.reduceMul, Int.reduceLE, Int.reduceLT, Int.reduceEq, Int.reduceNe, wk4, laidS, keepS]
  refine icall_drop [] m1 ⟨arg_tvE rfl rfl rfl rfl, trivial⟩ (.c _) ?_
  obtain ⟨fx, hfx⟩ : ∃ f, f = frL x := ⟨_, rfl⟩
  rw [← hfx] at hfl m2 m3 ⊢
  have hb : begR t x m = if opB t = false then (t, false, 1) else if m < (fx.length : Int) then (t, false, 6) else
    if wrC t fx ≠ 0 then (t, false, 6) else
      (wrT t (decide (m < ((t.a.length + fx.length : Nat) : Int))) fx, decide (m < ((t.a.length + fx.length : Nat) : Int)), 0) := by rw [begR, hfx]
  cases f1 : opB t with
  | false =>
    simp only [↓wt, wu, wk0, wk1, wk2, wk3, Nat.reduceAdd, Nat.reduceEqDiff, Nat.reduceLeDiff, Nat.reduceLT, Nat.reduceMul, Int.reduceLE, Int.reduceLT, Int.reduceEq, Int.reduceNe, wk4, laidS, keepS, f1, Tryd.results40]
    refine exp_beg (u := t) ?_
    rw [hb, if_pos f1]
  | true =>
    simp only [↓wt, wu, wk0, wk1, wk2, wk3, Nat.reduceAdd, Nat.reduceEqDiff, Nat.reduceLeDiff, Nat.reduceLT, Nat.reduceMul, Int.reduceLE, Int.reduceLT, Int.reduceEq, Int.reduceNe, wk4, laidS, keepS, f1]
    rw [if_neg (by rw [f1]; decide)] at hb
    have e5 : IntKind.i64.wrap ((t.a.length : Int) + (fx.length : Int)) = ((t.a.length + fx.length : Nat) : Int) := by rw [wrap_i64 (by omega) (by omega)]; omega
    by_cases g2 : (fx.length : Int) > m
    · have d2 : decide ((fx.length : Int) > m) = true := decide_eq_true g2
      simp only [↓wt, wu, wk0, wk1, wk2, wk3, Nat.reduceAdd, Nat.reduceEqDiff, Nat.reduceLeDiff, Nat.reduceLT, Nat.reduceMul, Int.reduceLE, Int.reduceLT, Int.reduceEq, Int.reduceNe, wk4, laidS, keepS, d2, Tryd.results40]
      refine exp_beg (u := t) ?_
      rw [hb, if_pos g2]
    · have d2 : decide ((fx.length : Int) > m) = false := decide_eq_false g2
      rw [if_neg g2] at hb
      simp only [↓wt, wu, wk0, wk1, wk2, wk3, Nat.reduceAdd, Nat.reduceEqDiff, Nat.reduceLeDiff, Nat.reduceLT, Nat.reduceMul, Int.reduceLE, Int.reduceLT, Int.reduceEq, Int.reduceNe, wk4, laidS, keepS, d2, e5]
      by_cases g3 : ((t.a.length + fx.length : Nat) : Int) > m
      · have d3 : decide (((t.a.length + fx.length : Nat) : Int) > m) = true := decide_eq_true g3
        rw [show decide (m < ((t.a.length + fx.length : Nat) : Int)) = true from d3] at hb
        rw [hw (ho.1 f1).2] at m3
        simp only [↓wt, wu, wk0, wk1, wk2, wk3, Nat.reduceAdd, Nat.reduceEqDiff, Nat.reduceLeDiff, Nat.reduceLT, Nat.reduceMul, Int.reduceLE, Int.reduceLT, Int.reduceEq, Int.reduceNe, wk4, laidS, keepS, d3]
        refine icall_drop [] m3 ⟨arg_gL ⟨argC_B, argC_B, argC_B, argC_B, argC_B, trivial⟩, trivial⟩ okR_wr ?_
        simp only [↓wt, wu, wk0, wk1, wk2, wk3, Nat.reduceAdd, Nat.reduceEqDiff, Nat.reduceLeDiff, Nat.reduceLT, Nat.reduceMul, Int.reduceLE, Int.reduceLT, Int.reduceEq, Int.reduceNe, wk4, laidS, keepS, tv, TapeA, Bs]
        by_cases g4 : wrC t fx = 0
        · have k4 : decide (wrC t fx = 0) = true := decide_eq_true g4
          rw [if_neg (by simp [g4])] at hb
          simp only [↓wt, wu, wk0, wk1, wk2, wk3, Nat.reduceAdd, Nat.reduceEqDiff, Nat.reduceLeDiff, Nat.reduceLT, Nat.reduceMul, Int.reduceLE, Int.reduceLT, Int.reduceEq, Int.reduceNe, wk4, laidS, keepS, k4, Tryd.results40]
          exact exp_beg (u := wrT t true fx) hb
        · have k4 : decide (wrC t fx = 0) = false := decide_eq_false g4
          rw [if_pos g4] at hb
          simp only [↓wt, wu, wk0, wk1, wk2, wk3, Nat.reduceAdd, Nat.reduceEqDiff, Nat.reduceLeDiff, Nat.reduceLT, Nat.reduceMul, Int.reduceLE, Int.reduceLT, Int.reduceEq, Int.reduceNe, wk4, laidS, keepS, k4, Tryd.results40]
          exact exp_beg (u := t) hb
      · have d3 : decide (((t.a.length + fx.length : Nat) : Int) > m) = false := decide_eq_false g3
        rw [show decide (m < ((t.a.length + fx.length : Nat) : Int)) = false from d3] at hb
        simp only [↓wt, wu, wk0, wk1, wk2, wk3, Nat.reduceAdd, Nat.reduceEqDiff, Nat.reduceLeDiff, Nat.reduceLT, Nat.reduceMul, Int.reduceLE, Int.reduceLT, Int.reduceEq, Int.reduceNe, wk4, laidS, keepS, d3]
        refine icall_drop [] m2 ⟨arg_gL ⟨argC_B, argC_B, argC_B, argC_B, argC_B, trivial⟩, trivial⟩ okR_wr ?_
        simp only [↓wt, wu, wk0, wk1, wk2, wk3, Nat.reduceAdd, Nat.reduceEqDiff, Nat.reduceLeDiff, Nat.reduceLT, Nat.reduceMul, Int.reduceLE, Int.reduceLT, Int.reduceEq, Int.reduceNe, wk4, laidS, keepS, tv, TapeA, Bs]
        by_cases g4 : wrC t fx = 0
        · have k4 : decide (wrC t fx = 0) = true := decide_eq_true g4
          rw [if_neg (by simp [g4])] at hb
          simp only [↓wt, wu, wk0, wk1, wk2, wk3, Nat.reduceAdd, Nat.reduceEqDiff, Nat.reduceLeDiff, Nat.reduceLT, Nat.reduceMul, Int.reduceLE, Int.reduceLT, Int.reduceEq, Int.reduceNe, wk4, laidS, keepS, k4, Tryd.results40]
          exact exp_beg (u := wrT t false fx) hb
        · have k4 : decide (wrC t fx = 0) = false := decide_eq_false g4
          rw [if_pos g4] at hb
          simp only [↓wt, wu, wk0, wk1, wk2, wk3, Nat.reduceAdd, Nat.reduceEqDiff, Nat.reduceLeDiff, Nat.reduceLT, Nat.reduceMul, Int.reduceLE, Int.reduceLT, Int.reduceEq, Int.reduceNe, wk4, laidS, keepS, k4, Tryd.results40]
          exact exp_beg (u := t) hb
end Go.Ab
