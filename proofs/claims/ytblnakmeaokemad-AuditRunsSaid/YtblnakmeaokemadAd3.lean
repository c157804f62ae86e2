/- Audits: what they come to. -/
import Derived.Test.YtblnakmeaokemadAd2
set_option linter.unusedSimpArgs false
set_option linter.unusedVariables false
set_option linter.constructorNameAsVariable false
set_option maxRecDepth 100000
namespace Go.Ab
open Go Go.Proofs Go.RowKit

/-- Put in, less taken, of the first k, as an audit knows. -/
def runI (who : Int) (a : AudD) (l : List RowD) (j : Nat) : Int := (if (j : Int) = who then (rowAt l j).i else a.inc.getD j 0) - a.use.getD j 0
def EndsOk (c : Conf) (who : Int) (a : AudD) (l : List RowD) : Prop := MayA c who a ∧ RightB c l ∧ a.p = 2 ∧ AllA who a
noncomputable instance (c : Conf) (who : Int) (a : AudD) (l : List RowD) : Decidable (EndsOk c who a l) := Classical.propDecidable _
noncomputable def endsA (c : Conf) (who : Int) (a : AudD) (l : List RowD) : Int × Bool × Bool :=
  if EndsOk c who a l then (if a.mv = true ∨ a.use.getD who.toNat 0 ≠ (rowAt l who.toNat).u then (0, false, true) else (c.k + isum (runI who a l) l.length, true, true)) else (0, false, false)
theorem exp_ends {M : Mem} {n : Int} {s t : Bool} {p : Int × Bool × Bool} (h : p = (n, s, t)) : Exp M (.t [.c (.int .i64 n), .c (.bool s), .c (.bool t)]) (.t [.c (.int .i64 p.1), .c (.bool p.2.1), .c (.bool p.2.2)]) := by
  subst h; exact exp_tA (xT_cons xA_c (xT_cons xA_c (xT_cons xA_c xT_nil)))
theorem AllA.run {c : Conf} {who : Int} {a : AudD} (h : MayA c who a) (h2 : AllA who a) : RunA c who a := h.2.resolve_left h2.2
theorem amts_getD {l : List Int} (h : Amts l) (k : Nat) : 0 ≤ l.getD k 0 ∧ l.getD k 0 ≤ 1099511627776 := by
  rw [List.getD_eq_getElem?_getD]
  by_cases hk : k < l.length
  · rw [List.getElem?_eq_getElem hk]; exact h _ (List.getElem_mem hk)
  · rw [List.getElem?_eq_none (by omega)]; exact ⟨by decide, by decide⟩
set_option maxHeartbeats 4000000 in
theorem ends_call (c : Conf) (who : Int) (a : AudD) (l : List RowD) (hl : LenA a) (hr : Lens l) : PCall Try.prog 28 [ConfA c, .c (.int .i64 who), AudV a, BooksV l] (.t [.c (.int .i64 (endsA c who a l).1), .c (.bool (endsA c who a l).2.1), .c (.bool (endsA c who a l).2.2)]) := by
  refine pcall_body tabOk Try.func28 rfl rfl (by rw [Try.ntmps28]; simp) ?_
  simp only [Try.ntmps28, ConfA, AudV, BooksV]
  simp only [↓wt, wu, wk0, wk1, wk2, wk3, Nat.reduceAdd, Nat.reduceEqDiff, Nat.reduceLeDiff, Nat.reduceLT, Nat.reduceMul, Int.reduceLE, Int.reduceLT, Int.reduceEq, Int.reduceNe, wk4, laidS, keepS]
  refine icall_drop [] (maya_call c who a hl) ⟨arg_conf', arg_c, arg_aud, trivial⟩ (.c _) ?_
  simp only [↓wt, wu, wk0, wk1, wk2, wk3, Nat.reduceAdd, Nat.reduceEqDiff, Nat.reduceLeDiff, Nat.reduceLT, Nat.reduceMul, Int.reduceLE, Int.reduceLT, Int.reduceEq, Int.reduceNe, wk4, laidS, keepS]
  refine r_gcasesN (fun h1 hb1 => ?_) (fun h1 hb1 => ?_) <;> simp only [↓wt, wu, wk0, wk1, wk2, wk3, Nat.reduceAdd, Nat.reduceEqDiff, Nat.reduceLeDiff, Nat.reduceLT, Nat.reduceMul, Int.reduceLE, Int.reduceLT, Int.reduceEq, Int.reduceNe, wk4, laidS, keepS, hb1]
  rotate_left
  · simp only [↓wt, wu, wk0, wk1, wk2, wk3, Nat.reduceAdd, Nat.reduceEqDiff, Nat.reduceLeDiff, Nat.reduceLT, Nat.reduceMul, Int.reduceLE, Int.reduceLT, Int.reduceEq, Int.reduceNe, wk4, laidS, keepS, Try.results28]
    exact exp_ends (by rw [endsA, if_neg fun h => h1 h.1])
  refine icall_drop [] (right_call c l hr) ⟨arg_conf', arg_books, trivial⟩ (.c _) ?_
  simp only [↓wt, wu, wk0, wk1, wk2, wk3, Nat.reduceAdd, Nat.reduceEqDiff, Nat.reduceLeDiff, Nat.reduceLT, Nat.reduceMul, Int.reduceLE, Int.reduceLT, Int.reduceEq, Int.reduceNe, wk4, laidS, keepS]
  refine r_gcasesN (fun h2 hb2 => ?_) (fun h2 hb2 => ?_) <;> simp only [↓wt, wu, wk0, wk1, wk2, wk3, Nat.reduceAdd, Nat.reduceEqDiff, Nat.reduceLeDiff, Nat.reduceLT, Nat.reduceMul, Int.reduceLE, Int.reduceLT, Int.reduceEq, Int.reduceNe, wk4, laidS, keepS, hb2]
  rotate_left
  · simp only [↓wt, wu, wk0, wk1, wk2, wk3, Nat.reduceAdd, Nat.reduceEqDiff, Nat.reduceLeDiff, Nat.reduceLT, Nat.reduceMul, Int.reduceLE, Int.reduceLT, Int.reduceEq, Int.reduceNe, wk4, laidS, keepS, Try.results28]
    exact exp_ends (by rw [endsA, if_neg fun h => h2 h.2.1])
  by_cases h3 : a.p = 2
  rotate_left
  · have f3 : decide (a.p = 2) = false := decide_eq_false h3
    simp only [↓wt, wu, wk0, wk1, wk2, wk3, Nat.reduceAdd, Nat.reduceEqDiff, Nat.reduceLeDiff, Nat.reduceLT, Nat.reduceMul, Int.reduceLE, Int.reduceLT, Int.reduceEq, Int.reduceNe, wk4, laidS, keepS, f3, Try.results28]
    exact exp_ends (by rw [endsA, if_neg fun h => h3 h.2.2.1])
  have f3 : decide (a.p = 2) = true := decide_eq_true h3
  simp only [↓wt, wu, wk0, wk1, wk2, wk3, Nat.reduceAdd, Nat.reduceEqDiff, Nat.reduceLeDiff, Nat.reduceLT, Nat.reduceMul, Int.reduceLE, Int.reduceLT, Int.reduceEq, Int.reduceNe, wk4, laidS, keepS, f3]
  refine icall_drop [] (all_call who a hl) ⟨arg_c, arg_aud, trivial⟩ (.c _) ?_
  simp only [↓wt, wu, wk0, wk1, wk2, wk3, Nat.reduceAdd, Nat.reduceEqDiff, Nat.reduceLeDiff, Nat.reduceLT, Nat.reduceMul, Int.reduceLE, Int.reduceLT, Int.reduceEq, Int.reduceNe, wk4, laidS, keepS]
  refine r_casesN (fun h4 hb4 => ?_) (fun h4 hb4 => ?_) <;> simp only [↓wt, wu, wk0, wk1, wk2, wk3, Nat.reduceAdd, Nat.reduceEqDiff, Nat.reduceLeDiff, Nat.reduceLT, Nat.reduceMul, Int.reduceLE, Int.reduceLT, Int.reduceEq, Int.reduceNe, wk4, laidS, keepS, hb4]
  rotate_left
  · simp only [↓wt, wu, wk0, wk1, wk2, wk3, Nat.reduceAdd, Nat.reduceEqDiff, Nat.reduceLeDiff, Nat.reduceLT, Nat.reduceMul, Int.reduceLE, Int.reduceLT, Int.reduceEq, Int.reduceNe, wk4, laidS, keepS, Try.results28]
    exact exp_ends (by rw [endsA, if_neg fun h => h4 h.2.2.2])
  have hok : EndsOk c who a l := ⟨h1, h2, h3, h4⟩
  have hrun := AllA.run h1 h4
  have hw : 0 ≤ who ∧ who < c.n := h1.1.2
  have hmc : MayC c := h1.1.1
  have hro := h2.2.1
  have hln := hro.1
  have hn16 : c.n ≤ 16 := by have := hmc; unfold MayC at this; omega
  obtain ⟨⟨g1, g2, g3, g4⟩, ⟨g5, g6, g7⟩, g8, g9, g10⟩ := hrun
  refine freeze_rule 0 [1, 3, 4, 6] (by simp only [↓wt, wu, wk0, wk1, wk2, wk3, Nat.reduceAdd, Nat.reduceEqDiff, Nat.reduceLeDiff, Nat.reduceLT, Nat.reduceMul, Int.reduceLE, Int.reduceLT, Int.reduceEq, Int.reduceNe, wk4, laidS, keepS, underL_O, underL_I, underL_R]; (try (repeat' (first | (exact fun _ => by simp only [pureL_eq, underL_cons, underL_nil, AV.cells, under_l, under_c, under_g, under_e, under_f, underL_B, underL_I, underL_Bs, under_Bs, List.mem_cons, List.not_mem_nil, or_false, forall_eq_or_imp, forall_eq, and_self, and_true, true_and, underL_O, underL_I, underL_R]) | ((with_reducible refine And.intro ?_ ?_)) | (intro _) | omega | (simp only [pureL_eq, underL_cons, underL_nil, AV.cells, under_l, under_c, under_g, under_e, under_f, underL_B, underL_I, underL_Bs, under_Bs, List.mem_cons, List.not_mem_nil, or_false, forall_eq_or_imp, forall_eq, and_self, and_true, true_and, underL_O, underL_I, underL_R])))); done) (by simp only [↓wt, wu, wk0, wk1, wk2, wk3, Nat.reduceAdd, Nat.reduceEqDiff, Nat.reduceLeDiff, Nat.reduceLT, Nat.reduceMul, Int.reduceLE, Int.reduceLT, Int.reduceEq, Int.reduceNe, wk4, laidS, keepS, underL_O, underL_I, underL_R]; (try (repeat' (first | (exact fun _ => by simp only [pureL_eq, underL_cons, underL_nil, AV.cells, under_l, under_c, under_g, under_e, under_f, underL_B, underL_I, underL_Bs, under_Bs, List.mem_cons, List.not_mem_nil, or_false, forall_eq_or_imp, forall_eq, and_self, and_true, true_and, underL_O, underL_I, underL_R]) | ((with_reducible refine And.intro ?_ ?_)) | (intro _) | omega | (simp only [pureL_eq, underL_cons, underL_nil, AV.cells, under_l, under_c, under_g, under_e, under_f, underL_B, underL_I, underL_Bs, under_Bs, List.mem_cons, List.not_mem_nil, or_false, forall_eq_or_imp, forall_eq, and_self, and_true, true_and, underL_O, underL_I, underL_R])))); done) ?_; simp only [↓wt, wu, wk0, wk1, wk2, wk3, Nat.reduceAdd, Nat.reduceEqDiff, Nat.reduceLeDiff, Nat.reduceLT, Nat.reduceMul, Int.reduceLE, Int.reduceLT, Int.reduceEq, Int.reduceNe, wk4, laidS, keepS, underL_O, underL_I, underL_R]; refine freeze_rule 1 [1, 3, 4, 6] (by simp only [↓wt, wu, wk0, wk1, wk2, wk3, Nat.reduceAdd, Nat.reduceEqDiff, Nat.reduceLeDiff, Nat.reduceLT, Nat.reduceMul, Int.reduceLE, Int.reduceLT, Int.reduceEq, Int.reduceNe, wk4, laidS, keepS, underL_O, underL_I, underL_R]; (try (repeat' (first | (exact fun _ => by simp only [pureL_eq, underL_cons, underL_nil, AV.cells, under_l, under_c, under_g, under_e, under_f, underL_B, underL_I, underL_Bs, under_Bs, List.mem_cons, List.not_mem_nil, or_false, forall_eq_or_imp, forall_eq, and_self, and_true, true_and, underL_O, underL_I, underL_R]) | ((with_reducible refine And.intro ?_ ?_)) | (intro _) | omega | (simp only [pureL_eq, underL_cons, underL_nil, AV.cells, under_l, under_c, under_g, under_e, under_f, underL_B, underL_I, underL_Bs, under_Bs, List.mem_cons, List.not_mem_nil, or_false, forall_eq_or_imp, forall_eq, and_self, and_true, true_and, underL_O, underL_I, underL_R])))); done) (by simp only [↓wt, wu, wk0, wk1, wk2, wk3, Nat.reduceAdd, Nat.reduceEqDiff, Nat.reduceLeDiff, Nat.reduceLT, Nat.reduceMul, Int.reduceLE, Int.reduceLT, Int.reduceEq, Int.reduceNe, wk4, laidS, keepS, underL_O, underL_I, underL_R]; (try (repeat' (first | (exact fun _ => by simp only [pureL_eq, underL_cons, underL_nil, AV.cells, under_l, under_c, under_g, under_e, under_f, underL_B, underL_I, underL_Bs, under_Bs, List.mem_cons, List.not_mem_nil, or_false, forall_eq_or_imp, forall_eq, and_self, and_true, true_and, underL_O, underL_I, underL_R]) | ((with_reducible refine And.intro ?_ ?_)) | (intro _) | omega | (simp only [pureL_eq, underL_cons, underL_nil, AV.cells, under_l, under_c, under_g, under_e, under_f, underL_B, underL_I, underL_Bs, under_Bs, List.mem_cons, List.not_mem_nil, or_false, forall_eq_or_imp, forall_eq, and_self, and_true, true_and, underL_O, underL_I, underL_R])))); done) ?_; simp only [↓wt, wu, wk0, wk1, wk2, wk3, Nat.reduceAdd, Nat.reduceEqDiff, Nat.reduceLeDiff, Nat.reduceLT, Nat.reduceMul, Int.reduceLE, Int.reduceLT, Int.reduceEq, Int.reduceNe, wk4, laidS, keepS, underL_O, underL_I, underL_R]
  refine draw_rule tabOk mixed [0, 0, 0, 0, 0, 0, 0, 0, 0, 0, 0, 0, 0, 0, 0] [[], [0], [0, 1], [0, 1, 2], [0, 1, 2, 3], [0, 1, 2], [0, 1, 2, 3, 4, 5], [0, 1, 2, 3, 4, 5, 6], [0, 1, 2], [0, 1, 2], [0, 1, 2, 8, 9], [0, 1, 2, 8, 9, 10], [0, 1, 2, 8, 9, 10, 11], [0, 1, 2, 3, 4, 5, 6, 7, 8, 9, 10, 11, 12], [0, 1, 2, 3, 4, 5, 6, 7, 8, 9, 10, 11, 12, 13]] (by kernel_rfl) ?_
  simp only [↓wt, wu, wk0, wk1, wk2, wk3, Nat.reduceAdd, Nat.reduceEqDiff, Nat.reduceLeDiff, Nat.reduceLT, Nat.reduceMul, Int.reduceLE, Int.reduceLT, Int.reduceEq, Int.reduceNe, wk4, laidS, keepS, elem_R, RowV_eq]
  have hends : ∀ p, (if a.mv = true ∨ a.use.getD who.toNat 0 ≠ (rowAt l who.toNat).u then ((0 : Int), false, true) else (c.k + isum (runI who a l) l.length, true, true)) = p → endsA c who a l = p := fun p h => by rw [endsA, if_pos hok]; exact h
  cases hmv : a.mv with
  | true =>
    simp only [↓wt, wu, wk0, wk1, wk2, wk3, Nat.reduceAdd, Nat.reduceEqDiff, Nat.reduceLeDiff, Nat.reduceLT, Nat.reduceMul, Int.reduceLE, Int.reduceLT, Int.reduceEq, Int.reduceNe, wk4, laidS, keepS, hmv, Try.results28]
    exact exp_ends (hends _ (by rw [if_pos (.inl hmv)]))
  | false =>
  simp only [↓wt, wu, wk0, wk1, wk2, wk3, Nat.reduceAdd, Nat.reduceEqDiff, Nat.reduceLeDiff, Nat.reduceLT, Nat.reduceMul, Int.reduceLE, Int.reduceLT, Int.reduceEq, Int.reduceNe, wk4, laidS, keepS, elem_R, RowV_eq, hmv]
  repeat (refine And.intro (by omega) ?_)
  by_cases hu : a.use.getD who.toNat 0 = (rowAt l who.toNat).u
  rotate_left
  · have f4 : decide (a.use.getD who.toNat 0 = (rowAt l who.toNat).u) = false := decide_eq_false hu
    simp only [↓wt, wu, wk0, wk1, wk2, wk3, Nat.reduceAdd, Nat.reduceEqDiff, Nat.reduceLeDiff, Nat.reduceLT, Nat.reduceMul, Int.reduceLE, Int.reduceLT, Int.reduceEq, Int.reduceNe, wk4, laidS, keepS, f4, Try.results28]
    exact exp_ends (hends _ (by rw [if_pos (.inr hu)]))
  have f4 : decide (a.use.getD who.toNat 0 = (rowAt l who.toNat).u) = true := decide_eq_true hu
  simp only [↓wt, wu, wk0, wk1, wk2, wk3, Nat.reduceAdd, Nat.reduceEqDiff, Nat.reduceLeDiff, Nat.reduceLT, Nat.reduceMul, Int.reduceLE, Int.reduceLT, Int.reduceEq, Int.reduceNe, wk4, laidS, keepS, f4]
  have hbd : ∀ k, k ≤ l.length → -17592186044416 ≤ isum (runI who a l) k ∧ isum (runI who a l) k ≤ 17592186044416 := fun k hk => by
    have := isum_bnd (f := runI who a l) (lo := -1099511627776) (hi := 1099511627776) (k := k) fun j hj => by
      have hrj := hro.row hmc (show j < l.length by omega)
      have u1 := amts_getD g9 j
      have u2 := amts_getD g10 j
      unfold runI
      split <;> omega
    omega
  have hck : 0 ≤ c.k ∧ c.k ≤ 1099511627776 := by have := hmc; unfold MayC at this; omega
  refine loop_ruleC tabOk [1, 3, 6, 54] (fun k : Nat => [(8, .c (.int .i64 (c.k + isum (runI who a l) k))), (55, .c (.int .i64 k))]) (fun k => k ≤ l.length) (fun k => l.length - k) 0 (by omega) ?_ ?_
  · simp only [↓wt, wu, wk0, wk1, wk2, wk3, wkf, Nat.reduceAdd, Nat.reduceEqDiff, Nat.reduceLeDiff, Nat.reduceLT, Nat.reduceMul, Int.reduceLE, Int.reduceLT, Int.reduceEq, Int.reduceNe, wk4, laidS, keepS, isum, Int.add_zero, underL_O, underL_I, underL_R, under_e]
    try trivial
  · intro k hk
    simp only [↓wt, wu, wk0, wk1, wk2, wk3, Nat.reduceAdd, Nat.reduceEqDiff, Nat.reduceLeDiff, Nat.reduceLT, Nat.reduceMul, Int.reduceLE, Int.reduceLT, Int.reduceEq, Int.reduceNe, wk4, laidS, keepS]
    refine r_casesD (fun hp hb => ?_) (fun hp hb => ?_) <;> simp only [↓wt, wu, wk0, wk1, wk2, wk3, Nat.reduceAdd, Nat.reduceEqDiff, Nat.reduceLeDiff, Nat.reduceLT, Nat.reduceMul, Int.reduceLE, Int.reduceLT, Int.reduceEq, Int.reduceNe, wk4, laidS, keepS, hb]
    · have hkl : k < l.length := by omega
      have e3 := wi_succ (k := k) (by omega)
      have hrk := hro.row hmc hkl
      have hrw := hro.row hmc (show who.toNat < l.length by omega)
      have u1 := amts_getD g9 k
      have u2 := amts_getD g10 k
      have b1 := hbd k hk
      have b2 := hbd (k + 1) hkl
      have hs : isum (runI who a l) (k + 1) = isum (runI who a l) k + runI who a l k := rfl
      refine ⟨by omega, ?_⟩
      by_cases hkw : (k : Int) = who
      · have f5 : decide ((k : Int) = who) = true := decide_eq_true hkw
        have hkt : who.toNat = k := by omega
        have hv : runI who a l k = (rowAt l k).i - a.use.getD k 0 := by rw [runI, if_pos hkw]
        have e4 : IntKind.i64.wrap ((rowAt l k).i - a.use.getD k 0) = (rowAt l k).i - a.use.getD k 0 := wrap_i64 (by omega) (by omega)
        have e5 : IntKind.i64.wrap (c.k + isum (runI who a l) k + ((rowAt l k).i - a.use.getD k 0)) = c.k + isum (runI who a l) (k + 1) := by rw [wrap_i64 (by omega) (by omega)]; omega
        simp only [↓wt, wu, wk0, wk1, wk2, wk3, Nat.reduceAdd, Nat.reduceEqDiff, Nat.reduceLeDiff, Nat.reduceLT, Nat.reduceMul, Int.reduceLE, Int.reduceLT, Int.reduceEq, Int.reduceNe, wk4, laidS, keepS, f5, elem_R, RowV_eq, hkt]
        repeat (refine And.intro (by omega) ?_)
        simp only [↓wt, wu, wk0, wk1, wk2, wk3, Nat.reduceAdd, Nat.reduceEqDiff, Nat.reduceLeDiff, Nat.reduceLT, Nat.reduceMul, Int.reduceLE, Int.reduceLT, Int.reduceEq, Int.reduceNe, wk4, laidS, keepS, f5, elem_R, RowV_eq, hkt, e4, e5, e3]
        repeat (refine And.intro (by omega) ?_)
        refine ⟨k + 1, by omega, by omega, ?_⟩
        simp only [↓wt, wu, wk0, wk1, wk2, wk3, wkf, Nat.reduceAdd, Nat.reduceEqDiff, Nat.reduceLeDiff, Nat.reduceLT, Nat.reduceMul, Int.reduceLE, Int.reduceLT, Int.reduceEq, Int.reduceNe, wk4, laidS, keepS, e3, underL_O, underL_I, underL_R, under_e]
        try trivial
      · have f5 : decide ((k : Int) = who) = false := decide_eq_false hkw
        have hv : runI who a l k = a.inc.getD k 0 - a.use.getD k 0 := by rw [runI, if_neg hkw]
        have e4 : IntKind.i64.wrap (a.inc.getD k 0 - a.use.getD k 0) = a.inc.getD k 0 - a.use.getD k 0 := wrap_i64 (by omega) (by omega)
        have e5 : IntKind.i64.wrap (c.k + isum (runI who a l) k + (a.inc.getD k 0 - a.use.getD k 0)) = c.k + isum (runI who a l) (k + 1) := by rw [wrap_i64 (by omega) (by omega)]; omega
        simp only [↓wt, wu, wk0, wk1, wk2, wk3, Nat.reduceAdd, Nat.reduceEqDiff, Nat.reduceLeDiff, Nat.reduceLT, Nat.reduceMul, Int.reduceLE, Int.reduceLT, Int.reduceEq, Int.reduceNe, wk4, laidS, keepS, f5, elem_R, RowV_eq, e4, e5, e3]
        repeat (refine And.intro (by omega) ?_)
        refine ⟨k + 1, by omega, by omega, ?_⟩
        simp only [↓wt, wu, wk0, wk1, wk2, wk3, wkf, Nat.reduceAdd, Nat.reduceEqDiff, Nat.reduceLeDiff, Nat.reduceLT, Nat.reduceMul, Int.reduceLE, Int.reduceLT, Int.reduceEq, Int.reduceNe, wk4, laidS, keepS, e3, underL_O, underL_I, underL_R, under_e]
        try trivial
    · have hk2 : k = l.length := by omega
      subst hk2
      simp only [↓wt, wu, wk0, wk1, wk2, wk3, Nat.reduceAdd, Nat.reduceEqDiff, Nat.reduceLeDiff, Nat.reduceLT, Nat.reduceMul, Int.reduceLE, Int.reduceLT, Int.reduceEq, Int.reduceNe, wk4, laidS, keepS, Try.results28]
      exact exp_ends (hends _ (by rw [if_neg fun h => h.elim (fun h => by rw [hmv] at h; cases h) fun h => h hu]))
end Go.Ab
