/- Audits: told by a message. -/
import Derived.Test.YtblnakmeaokemadAd4
import Derived.Test.YtblnakmeaokemadCl6
set_option linter.unusedSimpArgs false
set_option linter.unusedVariables false
set_option linter.constructorNameAsVariable false
set_option maxRecDepth 100000
namespace Go.Ab
open Go Go.Proofs Go.RowKit

def TellOk (c : Conf) (who : Int) (a : AudD) (m : MailD) : Prop := MayA c who a ∧ MayM c m ∧ m.o = who
noncomputable instance (c : Conf) (who : Int) (a : AudD) (m : MailD) : Decidable (TellOk c who a m) := Classical.propDecidable _
/-- Told by one: its row. -/
def toldD (a : AudD) (f : Nat) (r : RowD) : AudD :=
  ⟨a.y, a.p, a.told.set f true, if a.p = 1 then a.use.set f r.u else a.use, if a.p = 1 then a.inc else a.inc.set f r.i, if a.p = 1 then a.mv else (a.mv || decide (r.u ≠ a.use.getD f 0))⟩
def Deaf (a : AudD) (who : Int) (m : MailD) : Prop := NoneA a ∨ ¬ ((lookAt m.e who.toNat).1 = a.y ∧ (lookAt m.e who.toNat).2 = a.p) ∨ a.told.getD m.f.toNat false = true
instance (a : AudD) (who : Int) (m : MailD) : Decidable (Deaf a who m) := by unfold Deaf; infer_instance
noncomputable def tellA (c : Conf) (who : Int) (a : AudD) (m : MailD) : AudD × Int :=
  if TellOk c who a m then (if Deaf a who m then (a, 0) else (toldD a m.f.toNat (rowAt m.r m.f.toNat), 0)) else (aud0, 1)
theorem exp_audI {M : Mem} {a : AudD} {p : AudD × Int} {x : AV} {b : Int} (hp : p = (a, b)) (h : ∃ f, ExpA M x (AudV a) [] f) : Exp M (.t [x, .c (.int .i64 b)]) (.t [AudV p.1, .c (.int .i64 p.2)]) := by
  subst hp; exact exp_tA (xT_cons h (xT_cons xA_c xT_nil))
set_option maxHeartbeats 4000000 in
theorem tell_call (c : Conf) (who : Int) (a : AudD) (m : MailD) (hl : LenA a) (hr : Lens m.r) (he : m.e.length < 1000000000) :
    PCall Try.prog 32 [ConfA c, .c (.int .i64 who), AudV a, MailV m] (.t [AudV (tellA c who a m).1, .c (.int .i64 (tellA c who a m).2)]) := by
  refine pcall_body tabOk Try.func32 rfl rfl (by rw [Try.ntmps32]; simp) ?_
  simp only [Try.ntmps32, ConfA, AudV, MailV]
  simp only [↓wt, wu, wk0, wk1, wk2, wk3, Nat.reduceAdd, Nat.reduceEqDiff, Nat.reduceLeDiff, Nat.reduceLT, Nat.reduceMul, Int.reduceLE, Int.reduceLT, Int.reduceEq, Int.reduceNe, wk4, laidS, keepS]
  refine icall_drop [] (maya_call c who a hl) ⟨arg_conf', arg_c, arg_aud, trivial⟩ (.c _) ?_
  simp only [↓wt, wu, wk0, wk1, wk2, wk3, Nat.reduceAdd, Nat.reduceEqDiff, Nat.reduceLeDiff, Nat.reduceLT, Nat.reduceMul, Int.reduceLE, Int.reduceLT, Int.reduceEq, Int.reduceNe, wk4, laidS, keepS]
  refine r_gcasesN (fun h1 hb1 => ?_) (fun h1 hb1 => ?_) <;> simp only [↓wt, wu, wk0, wk1, wk2, wk3, Nat.reduceAdd, Nat.reduceEqDiff, Nat.reduceLeDiff, Nat.reduceLT, Nat.reduceMul, Int.reduceLE, Int.reduceLT, Int.reduceEq, Int.reduceNe, wk4, laidS, keepS, hb1]
  rotate_left
  · simp only [↓wt, wu, wk0, wk1, wk2, wk3, Nat.reduceAdd, Nat.reduceEqDiff, Nat.reduceLeDiff, Nat.reduceLT, Nat.reduceMul, Int.reduceLE, Int.reduceLT, Int.reduceEq, Int.reduceNe, wk4, laidS, keepS, Try.results32]
    exact exp_audI (a := aud0) (by rw [tellA, if_neg fun h => h1 h.1]) xA_aud0
  refine icall_drop [] (maym_call c m hr he) ⟨arg_conf', arg_mail, trivial⟩ (.c _) ?_
  simp only [↓wt, wu, wk0, wk1, wk2, wk3, Nat.reduceAdd, Nat.reduceEqDiff, Nat.reduceLeDiff, Nat.reduceLT, Nat.reduceMul, Int.reduceLE, Int.reduceLT, Int.reduceEq, Int.reduceNe, wk4, laidS, keepS]
  refine r_gcasesN (fun h2 hb2 => ?_) (fun h2 hb2 => ?_) <;> simp only [↓wt, wu, wk0, wk1, wk2, wk3, Nat.reduceAdd, Nat.reduceEqDiff, Nat.reduceLeDiff, Nat.reduceLT, Nat.reduceMul, Int.reduceLE, Int.reduceLT, Int.reduceEq, Int.reduceNe, wk4, laidS, keepS, hb2]
  rotate_left
  · simp only [↓wt, wu, wk0, wk1, wk2, wk3, Nat.reduceAdd, Nat.reduceEqDiff, Nat.reduceLeDiff, Nat.reduceLT, Nat.reduceMul, Int.reduceLE, Int.reduceLT, Int.reduceEq, Int.reduceNe, wk4, laidS, keepS, Try.results32]
    exact exp_audI (a := aud0) (by rw [tellA, if_neg fun h => h2 h.2.1]) xA_aud0
  by_cases h3 : m.o = who
  rotate_left
  · have f3 : decide (m.o = who) = false := decide_eq_false h3
    simp only [↓wt, wu, wk0, wk1, wk2, wk3, Nat.reduceAdd, Nat.reduceEqDiff, Nat.reduceLeDiff, Nat.reduceLT, Nat.reduceMul, Int.reduceLE, Int.reduceLT, Int.reduceEq, Int.reduceNe, wk4, laidS, keepS, f3, Try.results32]
    exact exp_audI (a := aud0) (by rw [tellA, if_neg fun h => h3 h.2.2]) xA_aud0
  have f3 : decide (m.o = who) = true := decide_eq_true h3
  simp only [↓wt, wu, wk0, wk1, wk2, wk3, Nat.reduceAdd, Nat.reduceEqDiff, Nat.reduceLeDiff, Nat.reduceLT, Nat.reduceMul, Int.reduceLE, Int.reduceLT, Int.reduceEq, Int.reduceNe, wk4, laidS, keepS, f3]
  have hok : TellOk c who a m := ⟨h1, h2, h3⟩
  have hw : 0 ≤ who ∧ who < c.n := h1.1.2
  have hf : 0 ≤ m.f ∧ m.f < c.n := h2.1.2
  have hmc : MayC c := h1.1.1
  have hel := h2.2.2.2.2.2.1
  have hrl := h2.2.2.2.2.1.2.1.1
  have deaf : Deaf a who m → tellA c who a m = (a, 0) := fun h => by rw [tellA, if_pos hok, if_pos h]
  have hear : ¬ Deaf a who m → tellA c who a m = (toldD a m.f.toNat (rowAt m.r m.f.toNat), 0) := fun h => by rw [tellA, if_pos hok, if_neg h]
  refine freeze_rule 0 [1, 6, 7, 8] (by simp only [↓wt, wu, wk0, wk1, wk2, wk3, Nat.reduceAdd, Nat.reduceEqDiff, Nat.reduceLeDiff, Nat.reduceLT, Nat.reduceMul, Int.reduceLE, Int.reduceLT, Int.reduceEq, Int.reduceNe, wk4, laidS, keepS, underL_O, underL_I, underL_R, underL_K]; (try (repeat' (first | (exact fun _ => by simp only [pureL_eq, underL_cons, underL_nil, AV.cells, under_l, under_c, under_g, under_e, under_f, underL_B, underL_I, underL_Bs, under_Bs, List.mem_cons, List.not_mem_nil, or_false, forall_eq_or_imp, forall_eq, and_self, and_true, true_and, underL_O, underL_I, underL_R, underL_K]) | ((with_reducible refine And.intro ?_ ?_)) | (intro _) | omega | (simp only [pureL_eq, underL_cons, underL_nil, AV.cells, under_l, under_c, under_g, under_e, under_f, underL_B, underL_I, underL_Bs, under_Bs, List.mem_cons, List.not_mem_nil, or_false, forall_eq_or_imp, forall_eq, and_self, and_true, true_and, underL_O, underL_I, underL_R, underL_K])))); done) (by simp only [↓wt, wu, wk0, wk1, wk2, wk3, Nat.reduceAdd, Nat.reduceEqDiff, Nat.reduceLeDiff, Nat.reduceLT, Nat.reduceMul, Int.reduceLE, Int.reduceLT, Int.reduceEq, Int.reduceNe, wk4, laidS, keepS, underL_O, underL_I, underL_R, underL_K]; (try (repeat' (first | (exact fun _ => by simp only [pureL_eq, underL_cons, underL_nil, AV.cells, under_l, under_c, under_g, under_e, under_f, underL_B, underL_I, underL_Bs, under_Bs, List.mem_cons, List.not_mem_nil, or_false, forall_eq_or_imp, forall_eq, and_self, and_true, true_and, underL_O, underL_I, underL_R, underL_K]) | ((with_reducible refine And.intro ?_ ?_)) | (intro _) | omega | (simp only [pureL_eq, underL_cons, underL_nil, AV.cells, under_l, under_c, under_g, under_e, under_f, underL_B, underL_I, underL_Bs, under_Bs, List.mem_cons, List.not_mem_nil, or_false, forall_eq_or_imp, forall_eq, and_self, and_true, true_and, underL_O, underL_I, underL_R, underL_K])))); done) ?_; simp only [↓wt, wu, wk0, wk1, wk2, wk3, Nat.reduceAdd, Nat.reduceEqDiff, Nat.reduceLeDiff, Nat.reduceLT, Nat.reduceMul, Int.reduceLE, Int.reduceLT, Int.reduceEq, Int.reduceNe, wk4, laidS, keepS, underL_O, underL_I, underL_R, underL_K]; refine freeze_rule 1 [1, 6, 7, 8] (by simp only [↓wt, wu, wk0, wk1, wk2, wk3, Nat.reduceAdd, Nat.reduceEqDiff, Nat.reduceLeDiff, Nat.reduceLT, Nat.reduceMul, Int.reduceLE, Int.reduceLT, Int.reduceEq, Int.reduceNe, wk4, laidS, keepS, underL_O, underL_I, underL_R, underL_K]; (try (repeat' (first | (exact fun _ => by simp only [pureL_eq, underL_cons, underL_nil, AV.cells, under_l, under_c, under_g, under_e, under_f, underL_B, underL_I, underL_Bs, under_Bs, List.mem_cons, List.not_mem_nil, or_false, forall_eq_or_imp, forall_eq, and_self, and_true, true_and, underL_O, underL_I, underL_R, underL_K]) | ((with_reducible refine And.intro ?_ ?_)) | (intro _) | omega | (simp only [pureL_eq, underL_cons, underL_nil, AV.cells, under_l, under_c, under_g, under_e, under_f, underL_B, underL_I, underL_Bs, under_Bs, List.mem_cons, List.not_mem_nil, or_false, forall_eq_or_imp, forall_eq, and_self, and_true, true_and, underL_O, underL_I, underL_R, underL_K])))); done) (by simp only [↓wt, wu, wk0, wk1, wk2, wk3, Nat.reduceAdd, Nat.reduceEqDiff, Nat.reduceLeDiff, Nat.reduceLT, Nat.reduceMul, Int.reduceLE, Int.reduceLT, Int.reduceEq, Int.reduceNe, wk4, laidS, keepS, underL_O, underL_I, underL_R, underL_K]; (try (repeat' (first | (exact fun _ => by simp only [pureL_eq, underL_cons, underL_nil, AV.cells, under_l, under_c, under_g, under_e, under_f, underL_B, underL_I, underL_Bs, under_Bs, List.mem_cons, List.not_mem_nil, or_false, forall_eq_or_imp, forall_eq, and_self, and_true, true_and, underL_O, underL_I, underL_R, underL_K]) | ((with_reducible refine And.intro ?_ ?_)) | (intro _) | omega | (simp only [pureL_eq, underL_cons, underL_nil, AV.cells, under_l, under_c, under_g, under_e, under_f, underL_B, underL_I, underL_Bs, under_Bs, List.mem_cons, List.not_mem_nil, or_false, forall_eq_or_imp, forall_eq, and_self, and_true, true_and, underL_O, underL_I, underL_R, underL_K])))); done) ?_; simp only [↓wt, wu, wk0, wk1, wk2, wk3, Nat.reduceAdd, Nat.reduceEqDiff, Nat.reduceLeDiff, Nat.reduceLT, Nat.reduceMul, Int.reduceLE, Int.reduceLT, Int.reduceEq, Int.reduceNe, wk4, laidS, keepS, underL_O, underL_I, underL_R, underL_K]; refine freeze_rule 2 [1, 6, 7, 8] (by simp only [↓wt, wu, wk0, wk1, wk2, wk3, Nat.reduceAdd, Nat.reduceEqDiff, Nat.reduceLeDiff, Nat.reduceLT, Nat.reduceMul, Int.reduceLE, Int.reduceLT, Int.reduceEq, Int.reduceNe, wk4, laidS, keepS, underL_O, underL_I, underL_R, underL_K]; (try (repeat' (first | (exact fun _ => by simp only [pureL_eq, underL_cons, underL_nil, AV.cells, under_l, under_c, under_g, under_e, under_f, underL_B, underL_I, underL_Bs, under_Bs, List.mem_cons, List.not_mem_nil, or_false, forall_eq_or_imp, forall_eq, and_self, and_true, true_and, underL_O, underL_I, underL_R, underL_K]) | ((with_reducible refine And.intro ?_ ?_)) | (intro _) | omega | (simp only [pureL_eq, underL_cons, underL_nil, AV.cells, under_l, under_c, under_g, under_e, under_f, underL_B, underL_I, underL_Bs, under_Bs, List.mem_cons, List.not_mem_nil, or_false, forall_eq_or_imp, forall_eq, and_self, and_true, true_and, underL_O, underL_I, underL_R, underL_K])))); done) (by simp only [↓wt, wu, wk0, wk1, wk2, wk3, Nat.reduceAdd, Nat.reduceEqDiff, Nat.reduceLeDiff, Nat.reduceLT, Nat.reduceMul, Int.reduceLE, Int.reduceLT, Int.reduceEq, Int.reduceNe, wk4, laidS, keepS, underL_O, underL_I, underL_R, underL_K]; (try (repeat' (first | (exact fun _ => by simp only [pureL_eq, underL_cons, underL_nil, AV.cells, under_l, under_c, under_g, under_e, under_f, underL_B, underL_I, underL_Bs, under_Bs, List.mem_cons, List.not_mem_nil, or_false, forall_eq_or_imp, forall_eq, and_self, and_true, true_and, underL_O, underL_I, underL_R, underL_K]) | ((with_reducible refine And.intro ?_ ?_)) | (intro _) | omega | (simp only [pureL_eq, underL_cons, underL_nil, AV.cells, under_l, under_c, under_g, under_e, under_f, underL_B, underL_I, underL_Bs, under_Bs, List.mem_cons, List.not_mem_nil, or_false, forall_eq_or_imp, forall_eq, and_self, and_true, true_and, underL_O, underL_I, underL_R, underL_K])))); done) ?_; simp only [↓wt, wu, wk0, wk1, wk2, wk3, Nat.reduceAdd, Nat.reduceEqDiff, Nat.reduceLeDiff, Nat.reduceLT, Nat.reduceMul, Int.reduceLE, Int.reduceLT, Int.reduceEq, Int.reduceNe, wk4, laidS, keepS, underL_O, underL_I, underL_R, underL_K]
  refine draw_rule tabOk mixed [0, 1, 0, 0, 0, 0, 0, 0, 0, 0, 0, 0, 0, 0, 0, 0, 0, 0, 0, 0] [[], [0], [0, 1], [0, 1, 2], [0, 1, 2, 3], [0, 1, 2], [0, 1, 2, 3, 4, 5], [0, 1, 2, 3, 4, 5, 6], [0, 1, 2], [0, 1, 2, 8], [0, 1, 2, 3, 4, 5, 6, 7, 8, 9], [0, 1, 2, 3, 4, 5, 6, 7, 8, 9, 10], [0, 1, 2, 3, 4, 5, 6, 7, 8, 9, 10, 11], [0, 1, 2, 3, 4, 5, 6, 7, 8, 9, 10, 11, 12], [0, 1, 2, 3, 4, 5, 6, 7, 8, 9, 10, 11, 12, 13], [0, 1, 2, 3, 4, 5, 6, 7, 8, 9, 10, 11, 12], [0, 1, 2, 3, 4, 5, 6, 7, 8, 9, 10, 11, 12, 15], [0, 1, 2, 3, 4, 5, 6, 7, 8, 9, 10, 11, 12, 13, 14, 15, 16], [0, 1, 2, 3, 4, 5, 6, 7, 8, 9, 10, 11, 12, 13, 14, 15, 16, 17], [0, 1, 2, 3, 4, 5, 6, 7, 8, 9, 10, 11, 12, 13, 14, 15, 16, 17, 18]] (by kernel_rfl) ?_
  simp only [↓wt, wu, wk0, wk1, wk2, wk3, Nat.reduceAdd, Nat.reduceEqDiff, Nat.reduceLeDiff, Nat.reduceLT, Nat.reduceMul, Int.reduceLE, Int.reduceLT, Int.reduceEq, Int.reduceNe, wk4, laidS, keepS]
  refine d_heavyC (icall_drop [] (none_call a hl) ⟨arg_aud, trivial⟩ (.c _) ⟨rfl, rfl⟩) ?_
  simp only [↓wt, wu, wk0, wk1, wk2, wk3, Nat.reduceAdd, Nat.reduceEqDiff, Nat.reduceLeDiff, Nat.reduceLT, Nat.reduceMul, Int.reduceLE, Int.reduceLT, Int.reduceEq, Int.reduceNe, wk4, laidS, keepS]
  by_cases h4 : NoneA a
  · have f4 : decide (NoneA a) = true := decide_eq_true h4
    simp only [↓wt, wu, wk0, wk1, wk2, wk3, Nat.reduceAdd, Nat.reduceEqDiff, Nat.reduceLeDiff, Nat.reduceLT, Nat.reduceMul, Int.reduceLE, Int.reduceLT, Int.reduceEq, Int.reduceNe, wk4, laidS, keepS, f4, Try.results32]
    exact exp_audI (deaf (.inl h4)) xA_aud
  have f4 : decide (NoneA a) = false := decide_eq_false h4
  have hrun : RunA c who a := h1.2.resolve_left h4
  have hne := lenA_ne hmc hrun
  obtain ⟨⟨g1, g2, g3, g4⟩, ⟨g5, g6, g7⟩, g8, g9, g10⟩ := hrun
  simp only [↓wt, wu, wk0, wk1, wk2, wk3, Nat.reduceAdd, Nat.reduceEqDiff, Nat.reduceLeDiff, Nat.reduceLT, Nat.reduceMul, Int.reduceLE, Int.reduceLT, Int.reduceEq, Int.reduceNe, wk4, laidS, keepS, f4, elem_K, LookV_eq, look_neq]
  repeat (refine And.intro (by omega) ?_)
  by_cases h5 : (lookAt m.e who.toNat).1 = a.y ∧ (lookAt m.e who.toNat).2 = a.p
  rotate_left
  · have f5 : decide ((lookAt m.e who.toNat).1 = a.y ∧ (lookAt m.e who.toNat).2 = a.p) = false := decide_eq_false h5
    simp only [↓wt, wu, wk0, wk1, wk2, wk3, Nat.reduceAdd, Nat.reduceEqDiff, Nat.reduceLeDiff, Nat.reduceLT, Nat.reduceMul, Int.reduceLE, Int.reduceLT, Int.reduceEq, Int.reduceNe, wk4, laidS, keepS, f5, Try.results32]
    exact exp_audI (deaf (.inr (.inl h5))) xA_aud
  have f5 : decide ((lookAt m.e who.toNat).1 = a.y ∧ (lookAt m.e who.toNat).2 = a.p) = true := decide_eq_true h5
  simp only [↓wt, wu, wk0, wk1, wk2, wk3, Nat.reduceAdd, Nat.reduceEqDiff, Nat.reduceLeDiff, Nat.reduceLT, Nat.reduceMul, Int.reduceLE, Int.reduceLT, Int.reduceEq, Int.reduceNe, wk4, laidS, keepS, f5, elem_O]
  repeat (refine And.intro (by omega) ?_)
  cases h6 : a.told.getD m.f.toNat false with
  | true =>
    simp only [↓wt, wu, wk0, wk1, wk2, wk3, Nat.reduceAdd, Nat.reduceEqDiff, Nat.reduceLeDiff, Nat.reduceLT, Nat.reduceMul, Int.reduceLE, Int.reduceLT, Int.reduceEq, Int.reduceNe, wk4, laidS, keepS, h6, Try.results32]
    exact exp_audI (deaf (.inr (.inr h6))) xA_aud
  | false =>
  have hnd : ¬ Deaf a who m := fun h => h.elim h4 fun h => h.elim (fun h => h h5) fun h => by rw [h6] at h; cases h
  rw [hear hnd]
  simp only [↓wt, wu, wk0, wk1, wk2, wk3, Nat.reduceAdd, Nat.reduceEqDiff, Nat.reduceLeDiff, Nat.reduceLT, Nat.reduceMul, Int.reduceLE, Int.reduceLT, Int.reduceEq, Int.reduceNe, wk4, laidS, keepS, h6]
  refine draw_rule4 tabOk mixed [(61, 0), (88, 0)] [0, 1, 0, 0, 0, 0, 0, 0, 4, 4, 1, 1] [0, 0, 0, 0, 0, 0, 0, 0, 4, 5, 0, 0] [[], [0], [], [2], [], [4], [2, 3, 4, 5], [2, 3, 4, 5, 6], [], [], [0, 1, 8, 9], [0, 1, 2, 3, 4, 5, 6, 7, 8, 9, 10]] (by kernel_rfl) (by kernel_rfl) ?_
  simp only [↓wt, wu, wk0, wk1, wk2, wk3, Nat.reduceAdd, Nat.reduceEqDiff, Nat.reduceLeDiff, Nat.reduceLT, Nat.reduceMul, Int.reduceLE, Int.reduceLT, Int.reduceEq, Int.reduceNe, wk4, laidS, keepS]
  refine d4_heavyC (r := .g [.c (.int .i64 a.y), .c (.int .i64 a.p), .s 6 0 (a.told.map encO).length, .s 7 0 (a.use.map encI).length, .s 8 0 (a.inc.map encI).length, .c (.bool a.mv)]) (fun β => icall_drop [] (copied_call a hne.1 hne.2.1 hne.2.2 hl) ⟨arg_aud, trivial⟩ ⟨.c _, .c _, (fun i hi j hj => pureO _ i hi j hj), (fun i hi j hj => pureI _ i hi j hj), (fun i hi j hj => pureI _ i hi j hj), .c _, trivial⟩ ⟨rfl, rfl⟩) (fun β => by rfl) ?_
  simp only [↓wt, wu, wk0, wk1, wk2, wk3, Nat.reduceAdd, Nat.reduceEqDiff, Nat.reduceLeDiff, Nat.reduceLT, Nat.reduceMul, Int.reduceLE, Int.reduceLT, Int.reduceEq, Int.reduceNe, wk4, laidS, keepS, AudO, elem_R, RowV_eq]
  refine ⟨by omega, by omega, by omega, ?_⟩
  refine d_heavyX (by simp only [↓wt, wu, wk0, wk1, wk2, wk3, Nat.reduceAdd, Nat.reduceEqDiff, Nat.reduceLeDiff, Nat.reduceLT, Nat.reduceMul, Int.reduceLE, Int.reduceLT, Int.reduceEq, Int.reduceNe, wk4, laidS, keepS, Cell]; (repeat (first | refine And.intro (by omega) ?_ | refine And.intro (pureB _) ?_ | refine And.intro (pureI _) ?_ | refine And.intro ⟨pureB _, pureB _⟩ ?_ | refine And.intro ⟨pureB _, pureI _⟩ ?_ | refine And.intro ⟨pureI _, pureB _⟩ ?_ | refine And.intro ⟨pureI _, pureI _⟩ ?_)); exact ⟨rfl, rfl⟩) ?_
  simp only [↓wt, wu, wk0, wk1, wk2, wk3, Nat.reduceAdd, Nat.reduceEqDiff, Nat.reduceLeDiff, Nat.reduceLT, Nat.reduceMul, Int.reduceLE, Int.reduceLT, Int.reduceEq, Int.reduceNe, wk4, laidS, keepS, Cell]
  refine d_heavyX (by simp only [↓wt, wu, wk0, wk1, wk2, wk3, Nat.reduceAdd, Nat.reduceEqDiff, Nat.reduceLeDiff, Nat.reduceLT, Nat.reduceMul, Int.reduceLE, Int.reduceLT, Int.reduceEq, Int.reduceNe, wk4, laidS, keepS, Cell]; (repeat (first | refine And.intro (by omega) ?_ | refine And.intro (pureB _) ?_ | refine And.intro (pureI _) ?_ | refine And.intro ⟨pureB _, pureB _⟩ ?_ | refine And.intro ⟨pureB _, pureI _⟩ ?_ | refine And.intro ⟨pureI _, pureB _⟩ ?_ | refine And.intro ⟨pureI _, pureI _⟩ ?_)); exact ⟨rfl, rfl⟩) ?_
  by_cases h7 : a.p = 1
  · have f7 : decide (a.p = 1) = true := decide_eq_true h7
    simp only [↓wt, wu, wk0, wk1, wk2, wk3, Nat.reduceAdd, Nat.reduceEqDiff, Nat.reduceLeDiff, Nat.reduceLT, Nat.reduceMul, Int.reduceLE, Int.reduceLT, Int.reduceEq, Int.reduceNe, wk4, laidS, keepS, f7, Cell, List.length_set, elem_O]
    refine ⟨⟨by omega, by omega⟩, by omega, ⟨by omega, by omega⟩, by omega, ?_⟩
    simp only [↓wt, wu, wk0, wk1, wk2, wk3, Nat.reduceAdd, Nat.reduceEqDiff, Nat.reduceLeDiff, Nat.reduceLT, Nat.reduceMul, Int.reduceLE, Int.reduceLT, Int.reduceEq, Int.reduceNe, wk4, laidS, keepS, Try.results32]
    have hv : toldD a m.f.toNat (rowAt m.r m.f.toNat) = ⟨a.y, a.p, a.told.set m.f.toNat true, a.use.set m.f.toNat (rowAt m.r m.f.toNat).u, a.inc, a.mv⟩ := by simp only [toldD, if_pos h7]
    rw [hv]
    exact exp_tA (xT_cons (xA_g (xL_cons (xC_pure (.refl _) (.c _)) (xL_cons (xC_pure (.refl _) (.c _)) (xL_cons (xC_own (id := 6) rfl List.map_set.symm (by simp) (pureO _))
      (xL_cons (xC_own (id := 7) rfl List.map_set.symm (by simp) (pureI _)) (xL_cons (xC_own (id := 8) rfl rfl (by simp) (pureI _)) (xL_cons (xC_pure (.refl _) (.c _)) xL_nil))))))) (xT_cons xA_c xT_nil))
  · have f7 : decide (a.p = 1) = false := decide_eq_false h7
    simp only [↓wt, wu, wk0, wk1, wk2, wk3, Nat.reduceAdd, Nat.reduceEqDiff, Nat.reduceLeDiff, Nat.reduceLT, Nat.reduceMul, Int.reduceLE, Int.reduceLT, Int.reduceEq, Int.reduceNe, wk4, laidS, keepS, f7, Cell, List.length_set, elem_O]
    refine draw_rule tabOk mixed [0, 2, 0, 2, 0, 2, 2, 2, 0, 0] [[], [0], [], [2], [], [4], [2, 3, 4, 5], [2, 3, 4, 5, 6], [0, 1, 2, 3, 4, 5, 6, 7], [0, 1, 2, 3, 4, 5, 6, 7, 8]] (by kernel_rfl) ?_
    simp only [↓wt, wu, wk0, wk1, wk2, wk3, Nat.reduceAdd, Nat.reduceEqDiff, Nat.reduceLeDiff, Nat.reduceLT, Nat.reduceMul, Int.reduceLE, Int.reduceLT, Int.reduceEq, Int.reduceNe, wk4, laidS, keepS]
    repeat (refine And.intro (by omega) ?_)
    by_cases h8 : (rowAt m.r m.f.toNat).u = a.use.getD m.f.toNat 0
    · have f8 : decide ((rowAt m.r m.f.toNat).u = a.use.getD m.f.toNat 0) = true := decide_eq_true h8
      simp only [↓wt, wu, wk0, wk1, wk2, wk3, Nat.reduceAdd, Nat.reduceEqDiff, Nat.reduceLeDiff, Nat.reduceLT, Nat.reduceMul, Int.reduceLE, Int.reduceLT, Int.reduceEq, Int.reduceNe, wk4, laidS, keepS, f8, Cell, List.length_set, elem_O]
      refine ⟨⟨by omega, by omega⟩, by omega, ⟨by omega, by omega⟩, by omega, ?_⟩
      simp only [↓wt, wu, wk0, wk1, wk2, wk3, Nat.reduceAdd, Nat.reduceEqDiff, Nat.reduceLeDiff, Nat.reduceLT, Nat.reduceMul, Int.reduceLE, Int.reduceLT, Int.reduceEq, Int.reduceNe, wk4, laidS, keepS, Try.results32]
      have hv : toldD a m.f.toNat (rowAt m.r m.f.toNat) = ⟨a.y, a.p, a.told.set m.f.toNat true, a.use, a.inc.set m.f.toNat (rowAt m.r m.f.toNat).i, a.mv⟩ := by
        simp only [toldD, if_neg h7, h8, ne_eq, not_true_eq_false, decide_false, Bool.or_false]
      rw [hv]
      exact exp_tA (xT_cons (xA_g (xL_cons (xC_pure (.refl _) (.c _)) (xL_cons (xC_pure (.refl _) (.c _)) (xL_cons (xC_own (id := 6) rfl List.map_set.symm (by simp) (pureO _))
      (xL_cons (xC_own (id := 7) rfl rfl (by simp) (pureI _)) (xL_cons (xC_own (id := 8) rfl List.map_set.symm (by simp) (pureI _)) (xL_cons (xC_pure (.refl _) (.c _)) xL_nil))))))) (xT_cons xA_c xT_nil))
    · have f8 : decide ((rowAt m.r m.f.toNat).u = a.use.getD m.f.toNat 0) = false := decide_eq_false h8
      simp only [↓wt, wu, wk0, wk1, wk2, wk3, Nat.reduceAdd, Nat.reduceEqDiff, Nat.reduceLeDiff, Nat.reduceLT, Nat.reduceMul, Int.reduceLE, Int.reduceLT, Int.reduceEq, Int.reduceNe, wk4, laidS, keepS, f8, Cell, List.length_set, elem_O]
      refine ⟨⟨by omega, by omega⟩, by omega, ⟨by omega, by omega⟩, by omega, ?_⟩
      simp only [↓wt, wu, wk0, wk1, wk2, wk3, Nat.reduceAdd, Nat.reduceEqDiff, Nat.reduceLeDiff, Nat.reduceLT, Nat.reduceMul, Int.reduceLE, Int.reduceLT, Int.reduceEq, Int.reduceNe, wk4, laidS, keepS, Try.results32]
      have hv : toldD a m.f.toNat (rowAt m.r m.f.toNat) = ⟨a.y, a.p, a.told.set m.f.toNat true, a.use, a.inc.set m.f.toNat (rowAt m.r m.f.toNat).i, true⟩ := by
        simp only [toldD, if_neg h7, ne_eq, h8, not_false_eq_true, decide_true, Bool.or_true]
      rw [hv]
      exact exp_tA (xT_cons (xA_g (xL_cons (xC_pure (.refl _) (.c _)) (xL_cons (xC_pure (.refl _) (.c _)) (xL_cons (xC_own (id := 6) rfl List.map_set.symm (by simp) (pureO _))
      (xL_cons (xC_own (id := 7) rfl rfl (by simp) (pureI _)) (xL_cons (xC_own (id := 8) rfl List.map_set.symm (by simp) (pureI _)) (xL_cons (xC_pure (.refl _) (.c _)) xL_nil))))))) (xT_cons xA_c xT_nil))
end Go.Ab
