/- Audits: the second phase. -/
import Derived.Test.YtblnakmeaokemadAd2
set_option linter.unusedSimpArgs false
set_option linter.unusedVariables false
set_option linter.constructorNameAsVariable false
set_option maxRecDepth 100000
namespace Go.Ab
open Go Go.Proofs Go.RowKit

def NextOk (c : Conf) (who : Int) (a : AudD) (l : List RowD) : Prop := MayA c who a ∧ RightB c l
noncomputable instance (c : Conf) (who : Int) (a : AudD) (l : List RowD) : Decidable (NextOk c who a l) := Classical.propDecidable _
noncomputable def nextA (c : Conf) (who : Int) (a : AudD) (l : List RowD) : AudD × Bool :=
  if NextOk c who a l then (if a.p = 1 ∧ AllA who a then (⟨a.y, 2, List.replicate a.told.length false, a.use.set who.toNat (rowAt l who.toNat).u, a.inc, a.mv⟩, true) else (a, false)) else (aud0, false)
theorem xA_aud {M : Mem} {a : AudD} : ∃ f, ExpA M (.g [.c (.int .i64 a.y), .c (.int .i64 a.p), .l 1 (a.told.map encO), .l 1 (a.use.map encI), .l 1 (a.inc.map encI), .c (.bool a.mv)]) (AudV a) [] f :=
  xA_pure weak_g (arg_aud (M := M) (ids := [])).2.2.2
theorem exp_audP {M : Mem} {a : AudD} {p : AudD × Bool} {x : AV} {b : Bool} (hp : p = (a, b)) (h : ∃ f, ExpA M x (AudV a) [] f) : Exp M (.t [x, .c (.bool b)]) (.t [AudV p.1, .c (.bool p.2)]) := by
  subst hp; exact exp_tA (xT_cons h (xT_cons xA_c xT_nil))
theorem lenA_ne {c : Conf} {who : Int} {a : AudD} (hc : MayC c) (h : RunA c who a) : a.told ≠ [] ∧ a.use ≠ [] ∧ a.inc ≠ [] := by
  have hn := hc.1
  obtain ⟨_, ⟨h1, h2, h3⟩, _⟩ := h
  refine ⟨fun h => ?_, fun h => ?_, fun h => ?_⟩
  · rw [h] at h1; simp at h1; omega
  · rw [h] at h2; simp at h2; omega
  · rw [h] at h3; simp at h3; omega
set_option maxHeartbeats 4000000 in
theorem next_call (c : Conf) (who : Int) (a : AudD) (l : List RowD) (hl : LenA a) (hr : Lens l) : PCall Try.prog 27 [ConfA c, .c (.int .i64 who), AudV a, BooksV l] (.t [AudV (nextA c who a l).1, .c (.bool (nextA c who a l).2)]) := by
  refine pcall_body tabOk Try.func27 rfl rfl (by rw [Try.ntmps27]; simp) ?_
  simp only [Try.ntmps27, ConfA, AudV, BooksV]
  simp only [↓wt, wu, wk0, wk1, wk2, wk3, Nat.reduceAdd, Nat.reduceEqDiff, Nat.reduceLeDiff, Nat.reduceLT, Nat.reduceMul, Int.reduceLE, Int.reduceLT, Int.reduceEq, Int.reduceNe, wk4, laidS, keepS]
  refine icall_drop [] (maya_call c who a hl) ⟨arg_conf', arg_c, arg_aud, trivial⟩ (.c _) ?_
  simp only [↓wt, wu, wk0, wk1, wk2, wk3, Nat.reduceAdd, Nat.reduceEqDiff, Nat.reduceLeDiff, Nat.reduceLT, Nat.reduceMul, Int.reduceLE, Int.reduceLT, Int.reduceEq, Int.reduceNe, wk4, laidS, keepS]
  refine r_gcasesN (fun h1 hb1 => ?_) (fun h1 hb1 => ?_) <;> simp only [↓wt, wu, wk0, wk1, wk2, wk3, Nat.reduceAdd, Nat.reduceEqDiff, Nat.reduceLeDiff, Nat.reduceLT, Nat.reduceMul, Int.reduceLE, Int.reduceLT, Int.reduceEq, Int.reduceNe, wk4, laidS, keepS, hb1]
  rotate_left
  · simp only [↓wt, wu, wk0, wk1, wk2, wk3, Nat.reduceAdd, Nat.reduceEqDiff, Nat.reduceLeDiff, Nat.reduceLT, Nat.reduceMul, Int.reduceLE, Int.reduceLT, Int.reduceEq, Int.reduceNe, wk4, laidS, keepS, Try.results27]
    exact exp_audP (a := aud0) (by rw [nextA, if_neg fun h => h1 h.1]) xA_aud0
  refine icall_drop [] (right_call c l hr) ⟨arg_conf', arg_books, trivial⟩ (.c _) ?_
  simp only [↓wt, wu, wk0, wk1, wk2, wk3, Nat.reduceAdd, Nat.reduceEqDiff, Nat.reduceLeDiff, Nat.reduceLT, Nat.reduceMul, Int.reduceLE, Int.reduceLT, Int.reduceEq, Int.reduceNe, wk4, laidS, keepS]
  refine r_casesN (fun h2 hb2 => ?_) (fun h2 hb2 => ?_) <;> simp only [↓wt, wu, wk0, wk1, wk2, wk3, Nat.reduceAdd, Nat.reduceEqDiff, Nat.reduceLeDiff, Nat.reduceLT, Nat.reduceMul, Int.reduceLE, Int.reduceLT, Int.reduceEq, Int.reduceNe, wk4, laidS, keepS, hb2]
  rotate_left
  · simp only [↓wt, wu, wk0, wk1, wk2, wk3, Nat.reduceAdd, Nat.reduceEqDiff, Nat.reduceLeDiff, Nat.reduceLT, Nat.reduceMul, Int.reduceLE, Int.reduceLT, Int.reduceEq, Int.reduceNe, wk4, laidS, keepS, Try.results27]
    exact exp_audP (a := aud0) (by rw [nextA, if_neg fun h => h2 h.2]) xA_aud0
  have hok : NextOk c who a l := ⟨h1, h2⟩
  by_cases h3 : a.p = 1
  rotate_left
  · have f3 : decide (a.p = 1) = false := decide_eq_false h3
    simp only [↓wt, wu, wk0, wk1, wk2, wk3, Nat.reduceAdd, Nat.reduceEqDiff, Nat.reduceLeDiff, Nat.reduceLT, Nat.reduceMul, Int.reduceLE, Int.reduceLT, Int.reduceEq, Int.reduceNe, wk4, laidS, keepS, f3, Try.results27]
    exact exp_audP (by rw [nextA, if_pos hok, if_neg fun h => h3 h.1]) xA_aud
  have f3 : decide (a.p = 1) = true := decide_eq_true h3
  simp only [↓wt, wu, wk0, wk1, wk2, wk3, Nat.reduceAdd, Nat.reduceEqDiff, Nat.reduceLeDiff, Nat.reduceLT, Nat.reduceMul, Int.reduceLE, Int.reduceLT, Int.reduceEq, Int.reduceNe, wk4, laidS, keepS, f3]
  refine icall_drop [] (all_call who a hl) ⟨arg_c, arg_aud, trivial⟩ (.c _) ?_
  simp only [↓wt, wu, wk0, wk1, wk2, wk3, Nat.reduceAdd, Nat.reduceEqDiff, Nat.reduceLeDiff, Nat.reduceLT, Nat.reduceMul, Int.reduceLE, Int.reduceLT, Int.reduceEq, Int.reduceNe, wk4, laidS, keepS]
  refine r_casesN (fun h4 hb4 => ?_) (fun h4 hb4 => ?_) <;> simp only [↓wt, wu, wk0, wk1, wk2, wk3, Nat.reduceAdd, Nat.reduceEqDiff, Nat.reduceLeDiff, Nat.reduceLT, Nat.reduceMul, Int.reduceLE, Int.reduceLT, Int.reduceEq, Int.reduceNe, wk4, laidS, keepS, hb4]
  rotate_left
  · simp only [↓wt, wu, wk0, wk1, wk2, wk3, Nat.reduceAdd, Nat.reduceEqDiff, Nat.reduceLeDiff, Nat.reduceLT, Nat.reduceMul, Int.reduceLE, Int.reduceLT, Int.reduceEq, Int.reduceNe, wk4, laidS, keepS, Try.results27]
    exact exp_audP (by rw [nextA, if_pos hok, if_neg fun h => h4 h.2]) xA_aud
  have hrun : RunA c who a := h1.2.resolve_left h4.2
  have hw : 0 ≤ who ∧ who < c.n := h1.1.2
  have hmc : MayC c := h1.1.1
  have hln := h2.2.1.1
  have hne := lenA_ne hmc hrun
  obtain ⟨⟨g1, g2, g3, g4⟩, ⟨g5, g6, g7⟩, g8, g9, g10⟩ := hrun
  have htl : 0 < a.told.length := List.length_pos_iff.2 hne.1
  refine icall_drop [] (copied_call a hne.1 hne.2.1 hne.2.2 hl) ⟨arg_aud, trivial⟩ ⟨.c _, .c _, (fun i hi j hj => pureO _ i hi j hj), (fun i hi j hj => pureI _ i hi j hj), (fun i hi j hj => pureI _ i hi j hj), .c _, trivial⟩ ?_
  simp only [↓wt, wu, wk0, wk1, wk2, wk3, Nat.reduceAdd, Nat.reduceEqDiff, Nat.reduceLeDiff, Nat.reduceLT, Nat.reduceMul, Int.reduceLE, Int.reduceLT, Int.reduceEq, Int.reduceNe, wk4, laidS, keepS, AudO]
  refine ⟨htl, _, rfl, by simp, rfl, ?_⟩
  refine draw_rule tabOk mixed [0, 2, 0, 0, 0, 2, 0, 2, 2, 1] [[], [0], [], [], [], [3, 4], [3, 4, 5], [3, 4, 5, 6], [0, 1, 2, 3, 4, 5, 6, 7], [0, 1, 2, 3, 4, 5, 6, 7, 8]] (by kernel_rfl) ?_
  simp only [↓wt, wu, wk0, wk1, wk2, wk3, Nat.reduceAdd, Nat.reduceEqDiff, Nat.reduceLeDiff, Nat.reduceLT, Nat.reduceMul, Int.reduceLE, Int.reduceLT, Int.reduceEq, Int.reduceNe, wk4, laidS, keepS, elem_R, RowV_eq]
  repeat (refine And.intro (by omega) ?_)
  refine d_heavyX (by simp only [↓wt, wu, wk0, wk1, wk2, wk3, Nat.reduceAdd, Nat.reduceEqDiff, Nat.reduceLeDiff, Nat.reduceLT, Nat.reduceMul, Int.reduceLE, Int.reduceLT, Int.reduceEq, Int.reduceNe, wk4, laidS, keepS, Cell, List.length_set]; (repeat (first | refine And.intro (by omega) ?_ | refine And.intro (pureB _) ?_ | refine And.intro (pureI _) ?_ | refine And.intro ⟨pureB _, pureB _⟩ ?_ | refine And.intro ⟨pureB _, pureI _⟩ ?_ | refine And.intro ⟨pureI _, pureB _⟩ ?_ | refine And.intro ⟨pureI _, pureI _⟩ ?_)); exact ⟨rfl, rfl⟩) ?_
  simp only [↓wt, wu, wk0, wk1, wk2, wk3, Nat.reduceAdd, Nat.reduceEqDiff, Nat.reduceLeDiff, Nat.reduceLT, Nat.reduceMul, Int.reduceLE, Int.reduceLT, Int.reduceEq, Int.reduceNe, wk4, laidS, keepS, Cell, List.length_set, Try.results27]
  have hv : nextA c who a l = (⟨a.y, 2, List.replicate a.told.length false, a.use.set who.toNat (rowAt l who.toNat).u, a.inc, a.mv⟩, true) := by rw [nextA, if_pos hok, if_pos ⟨h3, h4⟩]
  rw [hv]
  exact exp_tA (xT_cons (xA_g (xL_cons (xC_pure (.refl _) (.c _)) (xL_cons (xC_pure (.refl _) (.c _)) (xL_cons (xC_own (id := 3) rfl (by rw [List.map_replicate]; rfl) (by simp) (pureO _))
    (xL_cons (xC_own (id := 4) rfl List.map_set.symm (by simp) (pureI _)) (xL_cons (xC_own (id := 5) rfl rfl (by simp) (pureI _)) (xL_cons (xC_pure (.refl _) (.c _)) xL_nil))))))) (xT_cons xA_c xT_nil))
end Go.Ab
