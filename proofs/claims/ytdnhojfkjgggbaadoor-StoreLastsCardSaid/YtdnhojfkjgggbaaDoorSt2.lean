/- Store: opened? what is written behind, or anew. -/
import Derived.Test.YtdnhojfkjgggbaaDoorSt1
set_option linter.unusedSimpArgs false
set_option linter.unusedVariables false
set_option linter.constructorNameAsVariable false
set_option maxRecDepth 100000
namespace Go.Ab
open Go Go.Proofs Go.RowKit

noncomputable def opB (t : Tape4) : Bool := @decide (t.n ≤ 65536 ∧ t = opT t) (Classical.propDecidable _)
theorem opB_iff {t : Tape4} : opB t = true ↔ t.n ≤ 65536 ∧ t = opT t := by
  unfold opB; exact @decide_eq_true_iff _ (Classical.propDecidable _)
theorem opB_no {t : Tape4} (h : ¬ (t.n ≤ 65536 ∧ t = opT t)) : opB t = false := by
  cases e : opB t with
  | false => rfl
  | true => exact absurd (opB_iff.1 e) h
theorem opT_of {t : Tape4} (hn : (frs (scP t.a)).length = t.a.length) (hb : t.b = []) (hc : t.c = []) (hd : t.d = []) : t = opT t := by
  obtain ⟨a, b, c, d⟩ := t
  simp only at *
  subst hb hc hd
  have h := (mainF_pre ⟨a, [], [], []⟩).1
  simp only [mainF, List.append_nil] at h
  rw [hn, List.take_length] at h
  simp only [opT, mainF, List.append_nil]
  rw [← h]
theorem opT_to {t : Tape4} (h : t = opT t) : (frs (scP t.a)).length = t.a.length ∧ t.b = [] ∧ t.c = [] ∧ t.d = [] := by
  have hb : t.b = [] := congrArg Tape4.b h
  have ha : t.a = frs (scP (t.a ++ t.b)) := congrArg Tape4.a h
  rw [hb, List.append_nil] at ha
  exact ⟨(congrArg List.length ha).symm, hb, congrArg Tape4.c h, congrArg Tape4.d h⟩
theorem exp_bb {M : Mem} {b c : Bool} (h : c = b) : Exp M (.c (.bool b)) (.c (.bool c)) := by subst h; exact exp_c
set_option maxHeartbeats 4000000 in
theorem opened_call (t : Tape4) (ht : t.Lt) : PCall Tryd.prog 56 [tv t] (.c (.bool (opB t))) := by
  have hf := ht.fit
  obtain ⟨h1, h2, h3, h4⟩ := ht
  have hno := opB_no (t := t)
  have hto := opT_to (t := t)
  have m1 := fscan_call t.a (by omega)
  have m2 := tmay_call t.a t.b t.c t.d hf.1 hf.2.1 hf.2.2.1 hf.2.2.2
  change PCall _ _ _ (.c (.bool (decide (t.n ≤ 65536)))) at m2
  have m3 := bytes_call t.c t.d hf.2.2.1 hf.2.2.2
  refine pcall_body tabOk Tryd.func56 rfl rfl (by rw [Tryd.ntmps56]; simp) ?_
  simp only [Tryd.ntmps56, tv, TapeA, Bs]
  simp only [↓wt, wu, wk0, wk1, wk2, wk3, Nat.reduceAdd, Nat.reduceEqDiff, Nat.reduceLeDiff, Nat.reduceLT, Nat.reduceMul, Int.reduceLE, Int.reduceLT, Int.reduceEq, Int.reduceNe, wk4, laidS, keepS]
  refine icall_drop [] m1 ⟨arg_l (pureB _), trivial⟩ okR_scan ?_
  simp only [↓wt, wu, wk0, wk1, wk2, wk3, Nat.reduceAdd, Nat.reduceEqDiff, Nat.reduceLeDiff, Nat.reduceLT, Nat.reduceMul, Int.reduceLE, Int.reduceLT, Int.reduceEq, Int.reduceNe, wk4, laidS, keepS, Bs]
  refine icall_drop [] m2 ⟨arg_tape, trivial⟩ (.c _) ?_
  cases f1 : decide (t.n ≤ 65536) with
  | false =>
    have g := of_decide_eq_false f1
    simp only [↓wt, wu, wk0, wk1, wk2, wk3, Nat.reduceAdd, Nat.reduceEqDiff, Nat.reduceLeDiff, Nat.reduceLT, Nat.reduceMul, Int.reduceLE, Int.reduceLT, Int.reduceEq, Int.reduceNe, wk4, laidS, keepS, Tryd.results56]
    exact exp_bb (hno fun h => g h.1)
  | true =>
    have g := of_decide_eq_true f1
    by_cases h5 : ((frs (scP t.a)).length : Int) = (t.a.length : Int)
    · have d5 : decide (((frs (scP t.a)).length : Int) = (t.a.length : Int)) = true := decide_eq_true h5
      simp only [↓wt, wu, wk0, wk1, wk2, wk3, Nat.reduceAdd, Nat.reduceEqDiff, Nat.reduceLeDiff, Nat.reduceLT, Nat.reduceMul, Int.reduceLE, Int.reduceLT, Int.reduceEq, Int.reduceNe, wk4, laidS, keepS, d5]
      by_cases h6 : (t.b.length : Int) = 0
      · have d6 : decide ((t.b.length : Int) = 0) = true := decide_eq_true h6
        simp only [↓wt, wu, wk0, wk1, wk2, wk3, Nat.reduceAdd, Nat.reduceEqDiff, Nat.reduceLeDiff, Nat.reduceLT, Nat.reduceMul, Int.reduceLE, Int.reduceLT, Int.reduceEq, Int.reduceNe, wk4, laidS, keepS, d6]
        refine icall_drop [] m3 ⟨arg_area, trivial⟩ okR_Bs ?_
        simp only [↓wt, wu, wk0, wk1, wk2, wk3, Nat.reduceAdd, Nat.reduceEqDiff, Nat.reduceLeDiff, Nat.reduceLT, Nat.reduceMul, Int.reduceLE, Int.reduceLT, Int.reduceEq, Int.reduceNe, wk4, laidS, keepS, Bs, Tryd.results56]
        refine exp_bb ?_
        by_cases h7 : (((t.c.length + t.d.length : Nat)) : Int) = 0
        · rw [opB_iff.2 ⟨g, opT_of (by omega) (List.eq_nil_of_length_eq_zero (by omega)) (List.eq_nil_of_length_eq_zero (by omega)) (List.eq_nil_of_length_eq_zero (by omega))⟩]
          exact (decide_eq_true h7).symm
        · rw [hno fun h => h7 (by rw [(hto h.2).2.2.1, (hto h.2).2.2.2]; rfl)]
          exact (decide_eq_false h7).symm
      · have d6 : decide ((t.b.length : Int) = 0) = false := decide_eq_false h6
        simp only [↓wt, wu, wk0, wk1, wk2, wk3, Nat.reduceAdd, Nat.reduceEqDiff, Nat.reduceLeDiff, Nat.reduceLT, Nat.reduceMul, Int.reduceLE, Int.reduceLT, Int.reduceEq, Int.reduceNe, wk4, laidS, keepS, d6, Tryd.results56]
        exact exp_bb (hno fun h => h6 (by rw [(hto h.2).2.1]; rfl))
    · have d5 : decide (((frs (scP t.a)).length : Int) = (t.a.length : Int)) = false := decide_eq_false h5
      simp only [↓wt, wu, wk0, wk1, wk2, wk3, Nat.reduceAdd, Nat.reduceEqDiff, Nat.reduceLeDiff, Nat.reduceLT, Nat.reduceMul, Int.reduceLE, Int.reduceLT, Int.reduceEq, Int.reduceNe, wk4, laidS, keepS, d5, Tryd.results56]
      exact exp_bb (hno fun h => h5 (by rw [(hto h.2).1]))
theorem exp_tvc {M : Mem} {t : Tape4} {v : Value} : Exp M (.t [tv t, .c v]) (.t [tv t, .c v]) := exp_t ⟨⟨weak_g, arg_tape (M := M) (ids := []) |>.2.2.2⟩, ⟨weak_c, .c _⟩, trivial⟩
/-- A state on its way to a tape. -/
def SavA (t : Tape4) (f : List UInt8) : AV := .g [Bs t.a, Bs t.b, Bs t.c, Bs t.d, Bs f]
set_option maxHeartbeats 4000000 in
theorem behind_call (t : Tape4) (f : List UInt8) (ht : t.Lt) (hf : f.length ≤ 1000000) : PCall Tryd.prog 55 [SavA t f] (.t [tv (wrT t false f), .c (.int .i64 (wrC t f))]) := by
  have m1 := write_call t false f ht.fit hf
  refine pcall_body tabOk Tryd.func55 rfl rfl (by rw [Tryd.ntmps55]; simp) ?_
  simp only [Tryd.ntmps55, SavA, Bs]
  simp only [↓wt, wu, wk0, wk1, wk2, wk3, Nat.reduceAdd, Nat.reduceEqDiff, Nat.reduceLeDiff, Nat.reduceLT, Nat.reduceMul, Int.reduceLE, Int.reduceLT, Int.reduceEq, Int.reduceNe, wk4, laidS, keepS]
  refine icall_drop [] m1 ⟨arg_tvE rfl rfl rfl rfl, arg_c, arg_l (pureB _), trivial⟩ okR_wr ?_
  simp only [↓wt, wu, wk0, wk1, wk2, wk3, Nat.reduceAdd, Nat.reduceEqDiff, Nat.reduceLeDiff, Nat.reduceLT, Nat.reduceMul, Int.reduceLE, Int.reduceLT, Int.reduceEq, Int.reduceNe, wk4, laidS, keepS, tv, TapeA, Bs, Tryd.results55]
  exact exp_tvc (t := wrT t false f)
set_option maxHeartbeats 4000000 in
theorem anew_call (t : Tape4) (f : List UInt8) (ht : t.Lt) (hf : f.length ≤ 1000000) : PCall Tryd.prog 57 [SavA t f] (.t [tv (wrT (wiT t) true f), .c (.int .i64 (wrC (wiT t) f))]) := by
  have m0 := wipe_call t
  have m1 := write_call (wiT t) true f ⟨ht.fit.1, ht.fit.2.1, by simp [wiT, Fit8], by simp [wiT, Fit8]⟩ hf
  refine pcall_body tabOk Tryd.func57 rfl rfl (by rw [Tryd.ntmps57]; simp) ?_
  simp only [Tryd.ntmps57, SavA, Bs]
  simp only [↓wt, wu, wk0, wk1, wk2, wk3, Nat.reduceAdd, Nat.reduceEqDiff, Nat.reduceLeDiff, Nat.reduceLT, Nat.reduceMul, Int.reduceLE, Int.reduceLT, Int.reduceEq, Int.reduceNe, wk4, laidS, keepS]
  refine freeze_rule 0 [1, 2] (by simp only [↓wt, wu, wk0, wk1, wk2, wk3, Nat.reduceAdd, Nat.reduceEqDiff, Nat.reduceLeDiff, Nat.reduceLT, Nat.reduceMul, Int.reduceLE, Int.reduceLT, Int.reduceEq, Int.reduceNe, wk4, laidS, keepS]; (try (repeat' (first | (exact fun _ => by simp only [pureL_eq, underL_cons, underL_nil, AV.cells, under_l, under_c, under_g, under_e, under_f, underL_B, underL_I, underL_Bs, under_Bs, List.mem_cons, List.not_mem_nil, or_false, forall_eq_or_imp, forall_eq, and_self, and_true, true_and]) | ((with_reducible refine And.intro ?_ ?_)) | (intro _) | omega | (simp only [pureL_eq, underL_cons, underL_nil, AV.cells, under_l, under_c, under_g, under_e, under_f, underL_B, underL_I, underL_Bs, under_Bs, List.mem_cons, List.not_mem_nil, or_false, forall_eq_or_imp, forall_eq, and_self, and_true, true_and])))); done) (by simp only [↓wt, wu, wk0, wk1, wk2, wk3, Nat.reduceAdd, Nat.reduceEqDiff, Nat.reduceLeDiff, Nat.reduceLT, Nat.reduceMul, Int.reduceLE, Int.reduceLT, Int.reduceEq, Int.reduceNe, wk4, laidS, keepS]; (try (repeat' (first | (exact fun _ => by simp only [pureL_eq, underL_cons, underL_nil, AV.cells, under_l, under_c, under_g, under_e, under_f, underL_B, underL_I, underL_Bs, under_Bs, List.mem_cons, List.not_mem_nil, or_false, forall_eq_or_imp, forall_eq, and_self, and_true, true_and]) | ((with_reducible refine And.intro ?_ ?_)) | (intro _) | omega | (simp only [pureL_eq, underL_cons, underL_nil, AV.cells, under_l, under_c, under_g, under_e, under_f, underL_B, underL_I, underL_Bs, under_Bs, List.mem_cons, List.not_mem_nil, or_false, forall_eq_or_imp, forall_eq, and_self, and_true, true_and])))); done) ?_; simp only [↓wt, wu, wk0, wk1, wk2, wk3, Nat.reduceAdd, Nat.reduceEqDiff, Nat.reduceLeDiff, Nat.reduceLT, Nat.reduceMul, Int.reduceLE, Int.reduceLT, Int.reduceEq, Int.reduceNe, wk4, laidS, keepS]
  refine draw_rule tabOk mixed [0, 0, 1, 0, 0, 1, 0, 0, 1, 0] [[], [0], [0, 1], [], [3], [0, 1, 2, 3, 4], [0, 1, 2, 3, 4, 5], [0, 1, 2, 3, 4, 5], [0, 1, 2, 3, 4, 5, 6, 7], [0, 1, 2, 3, 4, 5, 6, 7, 8]] (by kernel_rfl) ?_
  simp only [↓wt, wu, wk0, wk1, wk2, wk3, Nat.reduceAdd, Nat.reduceEqDiff, Nat.reduceLeDiff, Nat.reduceLT, Nat.reduceMul, Int.reduceLE, Int.reduceLT, Int.reduceEq, Int.reduceNe, wk4, laidS, keepS]
  refine d_heavyC (icall_drop [] m0 ⟨arg_tvE rfl rfl rfl rfl, trivial⟩ okR_tape ⟨rfl, rfl⟩) ?_
  simp only [↓wt, wu, wk0, wk1, wk2, wk3, Nat.reduceAdd, Nat.reduceEqDiff, Nat.reduceLeDiff, Nat.reduceLT, Nat.reduceMul, Int.reduceLE, Int.reduceLT, Int.reduceEq, Int.reduceNe, wk4, laidS, keepS, tv, TapeA, Bs]
  refine d_heavyC (icall_drop [] m1 ⟨arg_tvE rfl rfl rfl rfl, arg_c, arg_l (pureB _), trivial⟩ okR_wr ⟨rfl, rfl⟩) ?_
  simp only [↓wt, wu, wk0, wk1, wk2, wk3, Nat.reduceAdd, Nat.reduceEqDiff, Nat.reduceLeDiff, Nat.reduceLT, Nat.reduceMul, Int.reduceLE, Int.reduceLT, Int.reduceEq, Int.reduceNe, wk4, laidS, keepS, tv, TapeA, Bs]
  refine d_heavyX (by simp only [↓wt, wu, wk0, wk1, wk2, wk3, Nat.reduceAdd, Nat.reduceEqDiff, Nat.reduceLeDiff, Nat.reduceLT, Nat.reduceMul, Int.reduceLE, Int.reduceLT, Int.reduceEq, Int.reduceNe, wk4, laidS, keepS]; (repeat (first | refine And.intro (by omega) ?_ | refine And.intro (pureB _) ?_ | refine And.intro (pureI _) ?_ | refine And.intro ⟨pureB _, pureB _⟩ ?_ | refine And.intro ⟨pureB _, pureI _⟩ ?_ | refine And.intro ⟨pureI _, pureB _⟩ ?_ | refine And.intro ⟨pureI _, pureI _⟩ ?_)); exact ⟨rfl, rfl⟩) ?_
  simp only [↓wt, wu, wk0, wk1, wk2, wk3, Nat.reduceAdd, Nat.reduceEqDiff, Nat.reduceLeDiff, Nat.reduceLT, Nat.reduceMul, Int.reduceLE, Int.reduceLT, Int.reduceEq, Int.reduceNe, wk4, laidS, keepS, tv, TapeA, Bs, Tryd.results57]
  exact exp_tvc (t := wrT (wiT t) true f)
end Go.Ab
