/- Claims: whose turn it is: the law. -/
import Derived.Test.YtblnakmeaokemadCl10
import Derived.Test.YtblnakmeaokemadCl8
set_option linter.unusedSimpArgs false
set_option linter.unusedVariables false
set_option linter.constructorNameAsVariable false
set_option maxRecDepth 100000
namespace Go.Ab
open Go Go.Proofs Go.RowKit

theorem old_irr {t w : Int} : ¬ Old t w t w := by unfold Old; omega
theorem old_tri {t w t' w' : Int} (h : ¬ Old t w t' w') (h2 : ¬ (t = t' ∧ w = w')) : Old t' w' t w := by unfold Old at *; omega
theorem old_tr {a b c d e f : Int} (h : ¬ Old a b c d) (h2 : Old e f c d) : ¬ Old a b e f := by unfold Old at *; omega
/-- What the oldest claim is. -/
def OldIs (c : Conf) (l : List NoteD) (n : Nat) : Option NoteD → Prop
  | none => ∀ j, j < n → ¬ OnC c (noteAt l j)
  | some r => (∃ i, i < n ∧ noteAt l i = r) ∧ OnC c r ∧ ∀ j, j < n → OnC c (noteAt l j) → ¬ Old (noteAt l j).t (noteAt l j).w r.t r.w
theorem oldK_is {c : Conf} {l : List NoteD} : ∀ n, n ≤ l.length → OldIs c l n (oldK c (l.take n))
  | 0, _ => fun j h => absurd h (by omega)
  | n + 1, hn => by
    have ih := oldK_is (c := c) (l := l) n (by omega)
    rw [oldK_snoc (by omega)]
    cases ho : oldK c (l.take n) with
    | none =>
      rw [ho] at ih
      simp only [oldStep]
      by_cases h : OnC c (noteAt l n)
      · rw [if_pos h]
        exact ⟨⟨n, by omega, rfl⟩, h, fun j hj hon => by
          rcases Nat.lt_or_ge j n with g | g
          · exact absurd hon (ih j g)
          · have : j = n := by omega
            subst this; exact old_irr⟩
      · rw [if_neg h]
        exact fun j hj hon => by
          rcases Nat.lt_or_ge j n with g | g
          · exact ih j g hon
          · have : j = n := by omega
            subst this; exact h hon
    | some r =>
      rw [ho] at ih
      obtain ⟨⟨i, hi, hr⟩, h2, h3⟩ := ih
      simp only [oldStep]
      by_cases h : OnC c (noteAt l n) ∧ Old (noteAt l n).t (noteAt l n).w r.t r.w
      · rw [if_pos h]
        exact ⟨⟨n, by omega, rfl⟩, h.1, fun j hj hon => by
          rcases Nat.lt_or_ge j n with g | g
          · exact old_tr (h3 j g hon) h.2
          · have : j = n := by omega
            subst this; exact old_irr⟩
      · rw [if_neg h]
        exact ⟨⟨i, by omega, hr⟩, h2, fun j hj hon => by
          rcases Nat.lt_or_ge j n with g | g
          · exact h3 j g hon
          · have : j = n := by omega
            subst this; exact fun k => h ⟨hon, k⟩⟩
theorem oldK_all {c : Conf} {l : List NoteD} {o : Option NoteD} (h : oldK c l = o) : OldIs c l l.length o := by
  have := oldK_is (c := c) (l := l) l.length (Nat.le_refl _)
  rwa [List.take_length, h] at this
/-- A claim's head is its place's. -/
theorem on_head {c : Conf} {who : Int} {l : List NoteD} (h : MayN c who l) {i : Nat} (hi : i < l.length) (ho : OnC c (noteAt l i)) : (noteAt l i).w = i ∧ (i : Int) ≠ who := by
  have h1 := (h.2.2 i hi).1.2.1
  refine ⟨?_, fun e => ?_⟩
  · rcases h1 with g | g
    · have := ho.2.1; omega
    · exact g.2.1
  · have := (h.2.2 i hi).2 e
    have h2 := ho.2.1
    rw [this] at h2
    exact absurd h2 (by decide)
set_option maxHeartbeats 4000000 in
theorem turns_law (c : Conf) (who : Int) (l : List NoteD) : PCall Try.prog 3 [ConfA c, .c (.int .i64 who), NotesV l] (.c (.bool true)) := by
  refine pcall_body tabOk Try.func3 rfl rfl (by rw [Try.ntmps3]; simp) ?_
  simp only [Try.ntmps3, ConfA, NotesV]
  simp only [↓wt, wu, wk0, wk1, wk2, wk3, Nat.reduceAdd, Nat.reduceEqDiff, Nat.reduceLeDiff, Nat.reduceLT, Nat.reduceMul, Int.reduceLE, Int.reduceLT, Int.reduceEq, Int.reduceNe, wk4, laidS, keepS]
  refine icall_drop [] awake14_call trivial (.c _) ?_
  simp only [↓wt, wu, wk0, wk1, wk2, wk3, Nat.reduceAdd, Nat.reduceEqDiff, Nat.reduceLeDiff, Nat.reduceLT, Nat.reduceMul, Int.reduceLE, Int.reduceLT, Int.reduceEq, Int.reduceNe, wk4, laidS, keepS]
  repeat' (first | (refine r_casesD (fun hp hb => ?_) (fun hp hb => ?_) <;> simp only [↓wt, wu, wk0, wk1, wk2, wk3, Nat.reduceAdd, Nat.reduceEqDiff, Nat.reduceLeDiff, Nat.reduceLT, Nat.reduceMul, Int.reduceLE, Int.reduceLT, Int.reduceEq, Int.reduceNe, wk4, laidS, keepS, Try.results3, hb]) | (refine r_casesN (fun hp hb => ?_) (fun hp hb => ?_) <;> simp only [↓wt, wu, wk0, wk1, wk2, wk3, Nat.reduceAdd, Nat.reduceEqDiff, Nat.reduceLeDiff, Nat.reduceLT, Nat.reduceMul, Int.reduceLE, Int.reduceLT, Int.reduceEq, Int.reduceNe, wk4, laidS, keepS, Try.results3, hb]) | (refine r_casesM (fun hp hb => ?_) (fun hp hb => ?_) <;> simp only [↓wt, wu, wk0, wk1, wk2, wk3, Nat.reduceAdd, Nat.reduceEqDiff, Nat.reduceLeDiff, Nat.reduceLT, Nat.reduceMul, Int.reduceLE, Int.reduceLT, Int.reduceEq, Int.reduceNe, wk4, laidS, keepS, Try.results3, hb]) | (refine r_casesB (fun hp hb => ?_) (fun hp hb => ?_) <;> simp only [↓wt, wu, wk0, wk1, wk2, wk3, Nat.reduceAdd, Nat.reduceEqDiff, Nat.reduceLeDiff, Nat.reduceLT, Nat.reduceMul, Int.reduceLE, Int.reduceLT, Int.reduceEq, Int.reduceNe, wk4, laidS, keepS, Try.results3, hb]) | (refine r_gcasesD (fun hp hb => ?_) (fun hp hb => ?_) <;> simp only [↓wt, wu, wk0, wk1, wk2, wk3, Nat.reduceAdd, Nat.reduceEqDiff, Nat.reduceLeDiff, Nat.reduceLT, Nat.reduceMul, Int.reduceLE, Int.reduceLT, Int.reduceEq, Int.reduceNe, wk4, laidS, keepS, Try.results3, hb]) | (refine r_gcasesN (fun hp hb => ?_) (fun hp hb => ?_) <;> simp only [↓wt, wu, wk0, wk1, wk2, wk3, Nat.reduceAdd, Nat.reduceEqDiff, Nat.reduceLeDiff, Nat.reduceLT, Nat.reduceMul, Int.reduceLE, Int.reduceLT, Int.reduceEq, Int.reduceNe, wk4, laidS, keepS, Try.results3, hb]) | (refine r_gcasesM (fun hp hb => ?_) (fun hp hb => ?_) <;> simp only [↓wt, wu, wk0, wk1, wk2, wk3, Nat.reduceAdd, Nat.reduceEqDiff, Nat.reduceLeDiff, Nat.reduceLT, Nat.reduceMul, Int.reduceLE, Int.reduceLT, Int.reduceEq, Int.reduceNe, wk4, laidS, keepS, Try.results3, hb]) | (refine r_gcasesB (fun hp hb => ?_) (fun hp hb => ?_) <;> simp only [↓wt, wu, wk0, wk1, wk2, wk3, Nat.reduceAdd, Nat.reduceEqDiff, Nat.reduceLeDiff, Nat.reduceLT, Nat.reduceMul, Int.reduceLE, Int.reduceLT, Int.reduceEq, Int.reduceNe, wk4, laidS, keepS, Try.results3, hb]) | ((with_reducible refine And.intro ?_ ?_); omega) | fail)
  · exact exp_c
  refine icall_drop [] (mayn_call c who l (by omega)) ⟨arg_conf', arg_c, arg_notes, trivial⟩ (.c _) ?_
  simp only [↓wt, wu, wk0, wk1, wk2, wk3, Nat.reduceAdd, Nat.reduceEqDiff, Nat.reduceLeDiff, Nat.reduceLT, Nat.reduceMul, Int.reduceLE, Int.reduceLT, Int.reduceEq, Int.reduceNe, wk4, laidS, keepS]
  refine r_casesN (fun hm hb2 => ?_) (fun hm hb2 => ?_) <;> simp only [↓wt, wu, wk0, wk1, wk2, wk3, Nat.reduceAdd, Nat.reduceEqDiff, Nat.reduceLeDiff, Nat.reduceLT, Nat.reduceMul, Int.reduceLE, Int.reduceLT, Int.reduceEq, Int.reduceNe, wk4, laidS, keepS, hb2]
  rotate_left
  · simp only [↓wt, wu, wk0, wk1, wk2, wk3, Nat.reduceAdd, Nat.reduceEqDiff, Nat.reduceLeDiff, Nat.reduceLT, Nat.reduceMul, Int.reduceLE, Int.reduceLT, Int.reduceEq, Int.reduceNe, wk4, laidS, keepS, Try.results3]
    exact exp_c
  have hlen : l.length ≤ 1000000000 := by omega
  refine icall_drop [] (oldest_call c who l hlen) ⟨arg_conf', arg_c, arg_notes, trivial⟩ okR_old ?_
  have hr : oldestR c who l = oldK c l := if_pos hm
  have mh : ∀ t w, PCall Try.prog 13 [ConfA c, .c (.int .i64 who), NotesV l, StA t w] (.c (.bool (heldO (oldK c l) t w))) := fun t w => hr ▸ held_call c who l t w hlen
  have mc : PCall Try.prog 12 [ConfA c, .c (.int .i64 who), NotesV l, ReqV 0 0 0] (.t [.c (.int .i64 (callsO (oldK c l) 0 0 0).1), .c (.bool (callsO (oldK c l) 0 0 0).2)]) := hr ▸ calls_call c who l 0 0 0 hlen
  rw [hr]
  cases ho : oldK c l with
  | none =>
    rw [ho] at mh mc
    simp only [↓wt, wu, wk0, wk1, wk2, wk3, Nat.reduceAdd, Nat.reduceEqDiff, Nat.reduceLeDiff, Nat.reduceLT, Nat.reduceMul, Int.reduceLE, Int.reduceLT, Int.reduceEq, Int.reduceNe, wk4, laidS, keepS, OldV, ReqV, headO, Option.isSome_none]
    refine icall_drop [] mc ⟨arg_conf', arg_c, arg_notes, arg_req, trivial⟩ ⟨.c _, .c _, trivial⟩ ?_
    simp only [↓wt, wu, wk0, wk1, wk2, wk3, Nat.reduceAdd, Nat.reduceEqDiff, Nat.reduceLeDiff, Nat.reduceLT, Nat.reduceMul, Int.reduceLE, Int.reduceLT, Int.reduceEq, Int.reduceNe, wk4, laidS, keepS, callsO]
    refine icall_drop [] (mh 1125899906842624 99) ⟨arg_conf', arg_c, arg_notes, arg_st, trivial⟩ (.c _) ?_
    simp only [↓wt, wu, wk0, wk1, wk2, wk3, Nat.reduceAdd, Nat.reduceEqDiff, Nat.reduceLeDiff, Nat.reduceLT, Nat.reduceMul, Int.reduceLE, Int.reduceLT, Int.reduceEq, Int.reduceNe, wk4, laidS, keepS, heldO, Try.results3]
    exact exp_c
  | some r =>
    rw [ho] at mh mc
    obtain ⟨⟨i0, hi0, hri⟩, hon, hmin⟩ := oldK_all ho
    have hrw := on_head hm hi0 (by rw [hri]; exact hon)
    rw [hri] at hrw
    simp only [↓wt, wu, wk0, wk1, wk2, wk3, Nat.reduceAdd, Nat.reduceEqDiff, Nat.reduceLeDiff, Nat.reduceLT, Nat.reduceMul, Int.reduceLE, Int.reduceLT, Int.reduceEq, Int.reduceNe, wk4, laidS, keepS, OldV, ReqV, headO, Option.isSome_some]
    refine freeze_rule 0 [1, 2, 3, 7, 11] (by simp only [↓wt, wu, wk0, wk1, wk2, wk3, Nat.reduceAdd, Nat.reduceEqDiff, Nat.reduceLeDiff, Nat.reduceLT, Nat.reduceMul, Int.reduceLE, Int.reduceLT, Int.reduceEq, Int.reduceNe, wk4, laidS, keepS, underL_N]; (try (repeat' (first | (exact fun _ => by simp only [pureL_eq, underL_cons, underL_nil, AV.cells, under_l, under_c, under_g, under_e, under_f, underL_B, underL_I, underL_Bs, under_Bs, List.mem_cons, List.not_mem_nil, or_false, forall_eq_or_imp, forall_eq, and_self, and_true, true_and, underL_N]) | ((with_reducible refine And.intro ?_ ?_)) | (intro _) | omega | (simp only [pureL_eq, underL_cons, underL_nil, AV.cells, under_l, under_c, under_g, under_e, under_f, underL_B, underL_I, underL_Bs, under_Bs, List.mem_cons, List.not_mem_nil, or_false, forall_eq_or_imp, forall_eq, and_self, and_true, true_and, underL_N])))); done) (by simp only [↓wt, wu, wk0, wk1, wk2, wk3, Nat.reduceAdd, Nat.reduceEqDiff, Nat.reduceLeDiff, Nat.reduceLT, Nat.reduceMul, Int.reduceLE, Int.reduceLT, Int.reduceEq, Int.reduceNe, wk4, laidS, keepS, underL_N]; (try (repeat' (first | (exact fun _ => by simp only [pureL_eq, underL_cons, underL_nil, AV.cells, under_l, under_c, under_g, under_e, under_f, underL_B, underL_I, underL_Bs, under_Bs, List.mem_cons, List.not_mem_nil, or_false, forall_eq_or_imp, forall_eq, and_self, and_true, true_and, underL_N]) | ((with_reducible refine And.intro ?_ ?_)) | (intro _) | omega | (simp only [pureL_eq, underL_cons, underL_nil, AV.cells, under_l, under_c, under_g, under_e, under_f, underL_B, underL_I, underL_Bs, under_Bs, List.mem_cons, List.not_mem_nil, or_false, forall_eq_or_imp, forall_eq, and_self, and_true, true_and, underL_N])))); done) ?_; simp only [↓wt, wu, wk0, wk1, wk2, wk3, Nat.reduceAdd, Nat.reduceEqDiff, Nat.reduceLeDiff, Nat.reduceLT, Nat.reduceMul, Int.reduceLE, Int.reduceLT, Int.reduceEq, Int.reduceNe, wk4, laidS, keepS, underL_N]; refine freeze_rule 1 [1, 2, 3, 7, 11] (by simp only [↓wt, wu, wk0, wk1, wk2, wk3, Nat.reduceAdd, Nat.reduceEqDiff, Nat.reduceLeDiff, Nat.reduceLT, Nat.reduceMul, Int.reduceLE, Int.reduceLT, Int.reduceEq, Int.reduceNe, wk4, laidS, keepS, underL_N]; (try (repeat' (first | (exact fun _ => by simp only [pureL_eq, underL_cons, underL_nil, AV.cells, under_l, under_c, under_g, under_e, under_f, underL_B, underL_I, underL_Bs, under_Bs, List.mem_cons, List.not_mem_nil, or_false, forall_eq_or_imp, forall_eq, and_self, and_true, true_and, underL_N]) | ((with_reducible refine And.intro ?_ ?_)) | (intro _) | omega | (simp only [pureL_eq, underL_cons, underL_nil, AV.cells, under_l, under_c, under_g, under_e, under_f, underL_B, underL_I, underL_Bs, under_Bs, List.mem_cons, List.not_mem_nil, or_false, forall_eq_or_imp, forall_eq, and_self, and_true, true_and, underL_N])))); done) (by simp only [↓wt, wu, wk0, wk1, wk2, wk3, Nat.reduceAdd, Nat.reduceEqDiff, Nat.reduceLeDiff, Nat.reduceLT, Nat.reduceMul, Int.reduceLE, Int.reduceLT, Int.reduceEq, Int.reduceNe, wk4, laidS, keepS, underL_N]; (try (repeat' (first | (exact fun _ => by simp only [pureL_eq, underL_cons, underL_nil, AV.cells, under_l, under_c, under_g, under_e, under_f, underL_B, underL_I, underL_Bs, under_Bs, List.mem_cons, List.not_mem_nil, or_false, forall_eq_or_imp, forall_eq, and_self, and_true, true_and, underL_N]) | ((with_reducible refine And.intro ?_ ?_)) | (intro _) | omega | (simp only [pureL_eq, underL_cons, underL_nil, AV.cells, under_l, under_c, under_g, under_e, under_f, underL_B, underL_I, underL_Bs, under_Bs, List.mem_cons, List.not_mem_nil, or_false, forall_eq_or_imp, forall_eq, and_self, and_true, true_and, underL_N])))); done) ?_; simp only [↓wt, wu, wk0, wk1, wk2, wk3, Nat.reduceAdd, Nat.reduceEqDiff, Nat.reduceLeDiff, Nat.reduceLT, Nat.reduceMul, Int.reduceLE, Int.reduceLT, Int.reduceEq, Int.reduceNe, wk4, laidS, keepS, underL_N]
    refine loop_ruleC tabOk [1, 2, 3, 7] (fun k : Nat => [(11, .c (.int .i64 k))]) (fun k => k ≤ l.length) (fun k => l.length - k) 0 (by omega) ?_ ?_
    · simp only [↓wt, wu, wk0, wk1, wk2, wk3, wkf, Nat.reduceAdd, Nat.reduceEqDiff, Nat.reduceLeDiff, Nat.reduceLT, Nat.reduceMul, Int.reduceLE, Int.reduceLT, Int.reduceEq, Int.reduceNe, wk4, laidS, keepS, underL_N, under_e]
      try trivial
    · rintro k hk
      simp only [↓wt, wu, wk0, wk1, wk2, wk3, Nat.reduceAdd, Nat.reduceEqDiff, Nat.reduceLeDiff, Nat.reduceLT, Nat.reduceMul, Int.reduceLE, Int.reduceLT, Int.reduceEq, Int.reduceNe, wk4, laidS, keepS]
      repeat' (first | (refine r_casesD (fun hp hb => ?_) (fun hp hb => ?_) <;> simp only [↓wt, wu, wk0, wk1, wk2, wk3, Nat.reduceAdd, Nat.reduceEqDiff, Nat.reduceLeDiff, Nat.reduceLT, Nat.reduceMul, Int.reduceLE, Int.reduceLT, Int.reduceEq, Int.reduceNe, wk4, laidS, keepS, hb]) | (refine r_casesN (fun hp hb => ?_) (fun hp hb => ?_) <;> simp only [↓wt, wu, wk0, wk1, wk2, wk3, Nat.reduceAdd, Nat.reduceEqDiff, Nat.reduceLeDiff, Nat.reduceLT, Nat.reduceMul, Int.reduceLE, Int.reduceLT, Int.reduceEq, Int.reduceNe, wk4, laidS, keepS, hb]) | (refine r_casesM (fun hp hb => ?_) (fun hp hb => ?_) <;> simp only [↓wt, wu, wk0, wk1, wk2, wk3, Nat.reduceAdd, Nat.reduceEqDiff, Nat.reduceLeDiff, Nat.reduceLT, Nat.reduceMul, Int.reduceLE, Int.reduceLT, Int.reduceEq, Int.reduceNe, wk4, laidS, keepS, hb]) | (refine r_casesB (fun hp hb => ?_) (fun hp hb => ?_) <;> simp only [↓wt, wu, wk0, wk1, wk2, wk3, Nat.reduceAdd, Nat.reduceEqDiff, Nat.reduceLeDiff, Nat.reduceLT, Nat.reduceMul, Int.reduceLE, Int.reduceLT, Int.reduceEq, Int.reduceNe, wk4, laidS, keepS, hb]) | (refine r_gcasesD (fun hp hb => ?_) (fun hp hb => ?_) <;> simp only [↓wt, wu, wk0, wk1, wk2, wk3, Nat.reduceAdd, Nat.reduceEqDiff, Nat.reduceLeDiff, Nat.reduceLT, Nat.reduceMul, Int.reduceLE, Int.reduceLT, Int.reduceEq, Int.reduceNe, wk4, laidS, keepS, hb]) | (refine r_gcasesN (fun hp hb => ?_) (fun hp hb => ?_) <;> simp only [↓wt, wu, wk0, wk1, wk2, wk3, Nat.reduceAdd, Nat.reduceEqDiff, Nat.reduceLeDiff, Nat.reduceLT, Nat.reduceMul, Int.reduceLE, Int.reduceLT, Int.reduceEq, Int.reduceNe, wk4, laidS, keepS, hb]) | (refine r_gcasesM (fun hp hb => ?_) (fun hp hb => ?_) <;> simp only [↓wt, wu, wk0, wk1, wk2, wk3, Nat.reduceAdd, Nat.reduceEqDiff, Nat.reduceLeDiff, Nat.reduceLT, Nat.reduceMul, Int.reduceLE, Int.reduceLT, Int.reduceEq, Int.reduceNe, wk4, laidS, keepS, hb]) | (refine r_gcasesB (fun hp hb => ?_) (fun hp hb => ?_) <;> simp only [↓wt, wu, wk0, wk1, wk2, wk3, Nat.reduceAdd, Nat.reduceEqDiff, Nat.reduceLeDiff, Nat.reduceLT, Nat.reduceMul, Int.reduceLE, Int.reduceLT, Int.reduceEq, Int.reduceNe, wk4, laidS, keepS, hb]) | ((with_reducible refine And.intro ?_ ?_); omega) | fail)
      · have hkl : k < l.length := by omega
        have e3 := wi_succ (k := k) (by omega)
        refine draw_rule tabOk mixed [0, 0, 0, 0, 0, 1, 0] [[], [], [], [1, 2], [1, 2, 3], [0, 1, 2, 3, 4], [0, 1, 2, 3, 4, 5]] (by kernel_rfl) ?_
        simp only [↓wt, wu, wk0, wk1, wk2, wk3, Nat.reduceAdd, Nat.reduceEqDiff, Nat.reduceLeDiff, Nat.reduceLT, Nat.reduceMul, Int.reduceLE, Int.reduceLT, Int.reduceEq, Int.reduceNe, wk4, laidS, keepS, elem_N, NoteV_eq]
        repeat (refine And.intro (by omega) ?_)
        refine d_heavyC (icall_drop [] (on_call c (noteAt l k)) ⟨arg_conf', arg_note, trivial⟩ (.c _) ⟨rfl, rfl⟩) ?_
        simp only [↓wt, wu, wk0, wk1, wk2, wk3, Nat.reduceAdd, Nat.reduceEqDiff, Nat.reduceLeDiff, Nat.reduceLT, Nat.reduceMul, Int.reduceLE, Int.reduceLT, Int.reduceEq, Int.reduceNe, wk4, laidS, keepS]
        refine r_casesN (fun hn hb3 => ?_) (fun hn hb3 => ?_) <;> simp only [↓wt, wu, wk0, wk1, wk2, wk3, Nat.reduceAdd, Nat.reduceEqDiff, Nat.reduceLeDiff, Nat.reduceLT, Nat.reduceMul, Int.reduceLE, Int.reduceLT, Int.reduceEq, Int.reduceNe, wk4, laidS, keepS, hb3]
        rotate_left
        · refine ⟨k + 1, by omega, by omega, ?_⟩
          simp only [↓wt, wu, wk0, wk1, wk2, wk3, wkf, Nat.reduceAdd, Nat.reduceEqDiff, Nat.reduceLeDiff, Nat.reduceLT, Nat.reduceMul, Int.reduceLE, Int.reduceLT, Int.reduceEq, Int.reduceNe, wk4, laidS, keepS, e3, underL_N, under_e]
          try trivial
        refine draw_rule tabOk mixed [0, 0, 0, 0, 0, 0, 0, 0, 1, 0] [[], [0], [], [], [2, 3], [2, 3, 4], [2, 3, 4, 5], [2, 3, 4, 5, 6], [0, 1, 2, 3, 4, 5, 6, 7], [0, 1, 2, 3, 4, 5, 6, 7, 8]] (by kernel_rfl) ?_
        simp only [↓wt, wu, wk0, wk1, wk2, wk3, Nat.reduceAdd, Nat.reduceEqDiff, Nat.reduceLeDiff, Nat.reduceLT, Nat.reduceMul, Int.reduceLE, Int.reduceLT, Int.reduceEq, Int.reduceNe, wk4, laidS, keepS, elem_N, NoteV_eq]
        repeat (refine And.intro (by omega) ?_)
        refine d_heavyC (icall_drop [] (rolder_call r.t r.w (noteAt l k).t (noteAt l k).w) ⟨arg_st, arg_st, trivial⟩ (.c _) ⟨rfl, rfl⟩) ?_
        simp only [↓wt, wu, wk0, wk1, wk2, wk3, Nat.reduceAdd, Nat.reduceEqDiff, Nat.reduceLeDiff, Nat.reduceLT, Nat.reduceMul, Int.reduceLE, Int.reduceLT, Int.reduceEq, Int.reduceNe, wk4, laidS, keepS]
        have hkw := on_head hm hkl hn
        have key : Old r.t r.w (noteAt l k).t (noteAt l k).w ↔ ¬ ((noteAt l k).t = r.t ∧ (noteAt l k).w = r.w ∧ (noteAt l k).a = r.a) := ⟨fun h g => by rw [g.1, g.2.1] at h; exact old_irr h, fun h => old_tri (hmin k hkl hn) fun g => h (by
          have : k = i0 := by have := hkw.1; have := hrw.1; omega
          rw [this, hri]; exact ⟨rfl, rfl, rfl⟩)⟩
        refine draw_rule tabOk mixed [0, 0, 0, 0, 0, 0, 0, 0, 0, 0, 0, 0, 0, 0, 0, 0, 0, 0, 0, 1, 0, 0, 0] [[], [], [], [1, 2], [1, 2, 3], [1, 2, 3, 4], [], [1, 2, 3, 4, 5, 6], [0, 1, 2, 3, 4, 5, 6, 7], [0, 1, 2, 3, 4, 5, 6, 7, 8], [0, 1, 2, 3, 4, 5, 6, 7, 8, 9], [0, 1, 2, 3, 4, 5, 6, 7, 8, 9], [0, 1, 2, 3, 4, 5, 6, 7, 8, 9], [0, 1, 2, 3, 4, 5, 6, 7, 8, 9], [0, 1, 2, 3, 4, 5, 6, 7, 8, 9], [0, 1, 2, 3, 4, 5, 6, 7, 8, 9, 13, 14], [0, 1, 2, 3, 4, 5, 6, 7, 8, 9, 13, 14, 15], [0, 1, 2, 3, 4, 5, 6, 7, 8, 9, 13, 14, 15, 16], [0, 1, 2, 3, 4, 5, 6, 7, 8, 9, 13, 14, 15, 16, 17], [0, 1, 2, 3, 4, 5, 6, 7, 8, 9, 10, 11, 12, 13, 14, 15, 16, 17, 18], [0, 1, 2, 3, 4, 5, 6, 7, 8, 9], [0, 1, 2, 3, 4, 5, 6, 7, 8, 9, 10, 11, 12, 13, 14, 15, 16, 17, 18, 19, 20], [0, 1, 2, 3, 4, 5, 6, 7, 8, 9, 10, 11, 12, 13, 14, 15, 16, 17, 18, 19, 20, 21]] (by kernel_rfl) ?_
        simp only [↓wt, wu, wk0, wk1, wk2, wk3, Nat.reduceAdd, Nat.reduceEqDiff, Nat.reduceLeDiff, Nat.reduceLT, Nat.reduceMul, Int.reduceLE, Int.reduceLT, Int.reduceEq, Int.reduceNe, wk4, laidS, keepS, elem_N, NoteV_eq, req_eql]
        repeat (refine And.intro (by omega) ?_)
        have key2 : (decide (Old r.t r.w (noteAt l k).t (noteAt l k).w) == decide ((noteAt l k).t = r.t ∧ (noteAt l k).w = r.w ∧ (noteAt l k).a = r.a)) = false := by
          by_cases g : (noteAt l k).t = r.t ∧ (noteAt l k).w = r.w ∧ (noteAt l k).a = r.a
          · rw [decide_eq_true g, decide_eq_false fun h => key.1 h g]; rfl
          · rw [decide_eq_false g, decide_eq_true (key.2 g)]; rfl
        simp only [↓wt, wu, wk0, wk1, wk2, wk3, Nat.reduceAdd, Nat.reduceEqDiff, Nat.reduceLeDiff, Nat.reduceLT, Nat.reduceMul, Int.reduceLE, Int.reduceLT, Int.reduceEq, Int.reduceNe, wk4, laidS, keepS, elem_N, NoteV_eq, key2]
        repeat (refine And.intro (by omega) ?_)
        refine d_heavyC (icall_drop [] (mh (noteAt l k).t (noteAt l k).w) ⟨arg_conf', arg_c, arg_notes, arg_st, trivial⟩ (.c _) ⟨rfl, rfl⟩) ?_
        simp only [↓wt, wu, wk0, wk1, wk2, wk3, Nat.reduceAdd, Nat.reduceEqDiff, Nat.reduceLeDiff, Nat.reduceLT, Nat.reduceMul, Int.reduceLE, Int.reduceLT, Int.reduceEq, Int.reduceNe, wk4, laidS, keepS, heldO, bne_self_eq_false]
        refine ⟨k + 1, by omega, by omega, ?_⟩
        simp only [↓wt, wu, wk0, wk1, wk2, wk3, wkf, Nat.reduceAdd, Nat.reduceEqDiff, Nat.reduceLeDiff, Nat.reduceLT, Nat.reduceMul, Int.reduceLE, Int.reduceLT, Int.reduceEq, Int.reduceNe, wk4, laidS, keepS, e3, underL_N, under_e]
        try trivial
      · refine icall_drop [] mc ⟨arg_conf', arg_c, arg_notes, arg_req, trivial⟩ ⟨.c _, .c _, trivial⟩ ?_
        have hc0 : callsO (some r) 0 0 0 = (r.w, true) := by simp [callsO]
        have hne : decide (r.w = who) = false := decide_eq_false fun h => hrw.2 (by rw [← hrw.1]; exact h)
        simp only [↓wt, wu, wk0, wk1, wk2, wk3, Nat.reduceAdd, Nat.reduceEqDiff, Nat.reduceLeDiff, Nat.reduceLT, Nat.reduceMul, Int.reduceLE, Int.reduceLT, Int.reduceEq, Int.reduceNe, wk4, laidS, keepS, hc0, hne]
        refine icall_drop [] (rmayn_call c who l hlen) ⟨arg_conf', arg_c, arg_notes, trivial⟩ (.c _) ?_
        simp only [↓wt, wu, wk0, wk1, wk2, wk3, Nat.reduceAdd, Nat.reduceEqDiff, Nat.reduceLeDiff, Nat.reduceLT, Nat.reduceMul, Int.reduceLE, Int.reduceLT, Int.reduceEq, Int.reduceNe, wk4, laidS, keepS, hb2, Try.results3]
        exact exp_c
end Go.Ab
