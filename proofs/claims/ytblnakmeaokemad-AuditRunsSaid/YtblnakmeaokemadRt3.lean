/- Rights: the rights of a replica, by rows each of which may be. -/
import Derived.Test.YtblnakmeaokemadRt2
set_option linter.unusedSimpArgs false
set_option linter.unusedVariables false
set_option linter.constructorNameAsVariable false
set_option maxRecDepth 100000
namespace Go.Ab
open Go Go.Proofs Go.RowKit

def came (l : List RowD) (w : Nat) (k : Nat) : Int := isum (fun j => (rowAt l j).o.getD w 0) k
def InW (l : List RowD) (w : Nat) : Prop := l.length ≤ 16 ∧ ∀ k, k < l.length → w < (rowAt l k).o.length ∧ Within ((rowAt l k).o.getD w 0) 1125899906842624
theorem came_bnd {l : List RowD} {w k : Nat} (h : InW l w) (hk : k ≤ l.length) : 0 ≤ came l w k ∧ came l w k ≤ 18014398509481984 := by
  have := isum_bnd (f := fun j => (rowAt l j).o.getD w 0) (lo := 0) (hi := 1125899906842624) (k := k) fun j hj => (h.2 j (by omega)).2
  have := h.1
  unfold came
  omega
theorem came_call (l : List RowD) (w : Nat) (h : InW l w) : PCall Try.prog 72 [.e [.l 3 (l.map RowV)], .e [.c (.int .i64 w)]] (.c (.int .i64 (came l w l.length))) := by
  refine pcall_body tabOk Try.func72 rfl rfl (by rw [Try.ntmps72]; simp) ?_
  simp only [Try.ntmps72]
  simp only [↓wt, wu, wk0, wk1, wk2, wk3, Nat.reduceAdd, Nat.reduceEqDiff, Nat.reduceLeDiff, Nat.reduceLT, Nat.reduceMul, Int.reduceLE, Int.reduceLT, Int.reduceEq, Int.reduceNe, wk4, laidS, keepS]
  refine loop_ruleC tabOk [1, 5, 6] (fun k : Nat => [(2, .c (.int .i64 (came l w k))), (7, .c (.int .i64 k))]) (fun k => k ≤ l.length) (fun k => l.length - k) 0 (by omega) ?_ ?_
  · simp only [↓wt, wu, wk0, wk1, wk2, wk3, wkf, Nat.reduceAdd, Nat.reduceEqDiff, Nat.reduceLeDiff, Nat.reduceLT, Nat.reduceMul, Int.reduceLE, Int.reduceLT, Int.reduceEq, Int.reduceNe, wk4, laidS, keepS, came, isum, underL_R, under_e]
    try trivial
  · intro k hk
    have h1 := h.1
    have h2 := fun hk => h.2 k hk
    have h3 := came_bnd h hk
    simp only [↓wt, wu, wk0, wk1, wk2, wk3, Nat.reduceAdd, Nat.reduceEqDiff, Nat.reduceLeDiff, Nat.reduceLT, Nat.reduceMul, Int.reduceLE, Int.reduceLT, Int.reduceEq, Int.reduceNe, wk4, laidS, keepS]
    repeat' (first | (refine r_casesD (fun hp hb => ?_) (fun hp hb => ?_) <;> simp only [↓wt, wu, wk0, wk1, wk2, wk3, Nat.reduceAdd, Nat.reduceEqDiff, Nat.reduceLeDiff, Nat.reduceLT, Nat.reduceMul, Int.reduceLE, Int.reduceLT, Int.reduceEq, Int.reduceNe, wk4, laidS, keepS, hb]) | (refine r_casesN (fun hp hb => ?_) (fun hp hb => ?_) <;> simp only [↓wt, wu, wk0, wk1, wk2, wk3, Nat.reduceAdd, Nat.reduceEqDiff, Nat.reduceLeDiff, Nat.reduceLT, Nat.reduceMul, Int.reduceLE, Int.reduceLT, Int.reduceEq, Int.reduceNe, wk4, laidS, keepS, hb]) | (refine r_casesM (fun hp hb => ?_) (fun hp hb => ?_) <;> simp only [↓wt, wu, wk0, wk1, wk2, wk3, Nat.reduceAdd, Nat.reduceEqDiff, Nat.reduceLeDiff, Nat.reduceLT, Nat.reduceMul, Int.reduceLE, Int.reduceLT, Int.reduceEq, Int.reduceNe, wk4, laidS, keepS, hb]) | (refine r_casesB (fun hp hb => ?_) (fun hp hb => ?_) <;> simp only [↓wt, wu, wk0, wk1, wk2, wk3, Nat.reduceAdd, Nat.reduceEqDiff, Nat.reduceLeDiff, Nat.reduceLT, Nat.reduceMul, Int.reduceLE, Int.reduceLT, Int.reduceEq, Int.reduceNe, wk4, laidS, keepS, hb]) | (refine r_gcasesD (fun hp hb => ?_) (fun hp hb => ?_) <;> simp only [↓wt, wu, wk0, wk1, wk2, wk3, Nat.reduceAdd, Nat.reduceEqDiff, Nat.reduceLeDiff, Nat.reduceLT, Nat.reduceMul, Int.reduceLE, Int.reduceLT, Int.reduceEq, Int.reduceNe, wk4, laidS, keepS, hb]) | (refine r_gcasesN (fun hp hb => ?_) (fun hp hb => ?_) <;> simp only [↓wt, wu, wk0, wk1, wk2, wk3, Nat.reduceAdd, Nat.reduceEqDiff, Nat.reduceLeDiff, Nat.reduceLT, Nat.reduceMul, Int.reduceLE, Int.reduceLT, Int.reduceEq, Int.reduceNe, wk4, laidS, keepS, hb]) | (refine r_gcasesM (fun hp hb => ?_) (fun hp hb => ?_) <;> simp only [↓wt, wu, wk0, wk1, wk2, wk3, Nat.reduceAdd, Nat.reduceEqDiff, Nat.reduceLeDiff, Nat.reduceLT, Nat.reduceMul, Int.reduceLE, Int.reduceLT, Int.reduceEq, Int.reduceNe, wk4, laidS, keepS, hb]) | (refine r_gcasesB (fun hp hb => ?_) (fun hp hb => ?_) <;> simp only [↓wt, wu, wk0, wk1, wk2, wk3, Nat.reduceAdd, Nat.reduceEqDiff, Nat.reduceLeDiff, Nat.reduceLT, Nat.reduceMul, Int.reduceLE, Int.reduceLT, Int.reduceEq, Int.reduceNe, wk4, laidS, keepS, hb]) | ((with_reducible refine And.intro ?_ ?_); omega) | fail)
    · have hkl : k < l.length := by omega
      have h2 := h2 hkl
      have h4 := came_bnd h (show k + 1 ≤ l.length by omega)
      have e1 : IntKind.i64.wrap ((k : Int) + 1) = ((k + 1 : Nat) : Int) := by rw [wrap_i64 (by omega) (by omega)]; omega
      have e2 : IntKind.i64.wrap (came l w k + (rowAt l k).o.getD w 0) = came l w (k + 1) := by
        rw [wrap_i64 (by simp only [came, isum] at h4 ⊢; omega) (by simp only [came, isum] at h4 ⊢; omega)]; rfl
      simp only [↓wt, wu, wk0, wk1, wk2, wk3, Nat.reduceAdd, Nat.reduceEqDiff, Nat.reduceLeDiff, Nat.reduceLT, Nat.reduceMul, Int.reduceLE, Int.reduceLT, Int.reduceEq, Int.reduceNe, wk4, laidS, keepS, elem_R, RowV_eq, e1, e2]
      repeat (refine And.intro (by omega) ?_)
      refine ⟨k + 1, by omega, by omega, ?_⟩
      simp only [↓wt, wu, wk0, wk1, wk2, wk3, wkf, Nat.reduceAdd, Nat.reduceEqDiff, Nat.reduceLeDiff, Nat.reduceLT, Nat.reduceMul, Int.reduceLE, Int.reduceLT, Int.reduceEq, Int.reduceNe, wk4, laidS, keepS, e1, e2, underL_R, under_e]
    · simp only [↓wt, wu, wk0, wk1, wk2, wk3, Nat.reduceAdd, Nat.reduceEqDiff, Nat.reduceLeDiff, Nat.reduceLT, Nat.reduceMul, Int.reduceLE, Int.reduceLT, Int.reduceEq, Int.reduceNe, wk4, laidS, keepS, Try.results72]
      have : k = l.length := by omega
      subst this
      exact exp_c
def RowsOk (c : Conf) (l : List RowD) : Prop := (l.length : Int) = c.n ∧ ∀ k, k < l.length → MayR (rowAt l k).i (rowAt l k).u (rowAt l k).o c.n k ∧ (rowAt l k).i ≤ c.c
def ofC (c : Conf) (l : List RowD) (w : Nat) : Int := shareC c w + (rowAt l w).i + came l w l.length - sentR (rowAt l w).o - (rowAt l w).u
instance (c : Conf) (l : List RowD) : Decidable (RowsOk c l) := by unfold RowsOk; infer_instance
theorem RowsOk.inW {c : Conf} {l : List RowD} (hc : MayC c) (h : RowsOk c l) {w : Nat} (hw : w < l.length) : InW l w := by
  have hn := hc.1
  refine ⟨by have := h.1; omega, fun k hk => ?_⟩
  obtain ⟨⟨_, h2, _, _, _, h3⟩, _⟩ := h.2 k hk
  have h1 := h.1
  have hwl : w < (rowAt l k).o.length := by omega
  refine ⟨hwl, ?_⟩
  rw [List.getD_eq_getElem?_getD, List.getElem?_eq_getElem hwl]
  exact h3 _ (List.getElem_mem hwl)
theorem RowsOk.row {c : Conf} {l : List RowD} (hc : MayC c) (h : RowsOk c l) {w : Nat} (hw : w < l.length) : (rowAt l w).o.length = l.length ∧ l.length ≤ 16 ∧ (0 ≤ (rowAt l w).i ∧ (rowAt l w).i ≤ 1099511627776) ∧ (0 ≤ (rowAt l w).u ∧ (rowAt l w).u ≤ 1099511627776) ∧
    (∀ v ∈ (rowAt l w).o, Within v 1125899906842624) ∧ (rowAt l w).o.getD w 0 = 0 ∧ (rowAt l w).i ≤ c.c := by
  have hn := hc.1
  obtain ⟨⟨_, h2, h3, h4, h5, h6⟩, h7⟩ := h.2 w hw
  have h1 := h.1
  exact ⟨by omega, by omega, h3, h4, h6, by simpa using h5, h7⟩
theorem sent_bnd (o : List Int) : 0 ≤ sentR o ∧ sentR o ≤ 18014398509481984 := by
  unfold sentR
  split
  · rename_i h
    have := sum_in o h.2
    have h1 := h.1
    refine ⟨this.1, ?_⟩
    have h2 : (o.length : Int) * 1125899906842624 ≤ 16 * 1125899906842624 := Int.mul_le_mul_of_nonneg_right (by omega) (by omega)
    omega
  · omega
theorem of_call (c : Conf) (l : List RowD) (w : Nat) (hc : MayC c) (h : RowsOk c l) (hw : w < l.length) : PCall Try.prog 59 [ConfA c, BooksV l, .c (.int .i64 w)] (.c (.int .i64 (ofC c l w))) := by
  have hr := h.row hc hw
  have m1 := share_call c w
  have m2 := came_call l w (h.inW hc hw)
  have m3 := sent_call (rowAt l w).i (rowAt l w).u (rowAt l w).o (by omega)
  have b1 := share_bnd c w
  have b2 := came_bnd (h.inW hc hw) (Nat.le_refl _)
  have b3 := sent_bnd (rowAt l w).o
  refine pcall_body tabOk Try.func59 rfl rfl (by rw [Try.ntmps59]; simp) ?_
  simp only [Try.ntmps59, ConfA, BooksV]
  simp only [↓wt, wu, wk0, wk1, wk2, wk3, Nat.reduceAdd, Nat.reduceEqDiff, Nat.reduceLeDiff, Nat.reduceLT, Nat.reduceMul, Int.reduceLE, Int.reduceLT, Int.reduceEq, Int.reduceNe, wk4, laidS, keepS]
  refine freeze_rule 0 [3, 4, 5, 7] (by simp only [↓wt, wu, wk0, wk1, wk2, wk3, Nat.reduceAdd, Nat.reduceEqDiff, Nat.reduceLeDiff, Nat.reduceLT, Nat.reduceMul, Int.reduceLE, Int.reduceLT, Int.reduceEq, Int.reduceNe, wk4, laidS, keepS, underL_R]; (try (repeat' (first | (exact fun _ => by simp only [pureL_eq, underL_cons, underL_nil, AV.cells, under_l, under_c, under_g, under_e, under_f, underL_B, underL_I, underL_Bs, under_Bs, List.mem_cons, List.not_mem_nil, or_false, forall_eq_or_imp, forall_eq, and_self, and_true, true_and, underL_R]) | ((with_reducible refine And.intro ?_ ?_)) | (intro _) | omega | (simp only [pureL_eq, underL_cons, underL_nil, AV.cells, under_l, under_c, under_g, under_e, under_f, underL_B, underL_I, underL_Bs, under_Bs, List.mem_cons, List.not_mem_nil, or_false, forall_eq_or_imp, forall_eq, and_self, and_true, true_and, underL_R])))); done) (by simp only [↓wt, wu, wk0, wk1, wk2, wk3, Nat.reduceAdd, Nat.reduceEqDiff, Nat.reduceLeDiff, Nat.reduceLT, Nat.reduceMul, Int.reduceLE, Int.reduceLT, Int.reduceEq, Int.reduceNe, wk4, laidS, keepS, underL_R]; (try (repeat' (first | (exact fun _ => by simp only [pureL_eq, underL_cons, underL_nil, AV.cells, under_l, under_c, under_g, under_e, under_f, underL_B, underL_I, underL_Bs, under_Bs, List.mem_cons, List.not_mem_nil, or_false, forall_eq_or_imp, forall_eq, and_self, and_true, true_and, underL_R]) | ((with_reducible refine And.intro ?_ ?_)) | (intro _) | omega | (simp only [pureL_eq, underL_cons, underL_nil, AV.cells, under_l, under_c, under_g, under_e, under_f, underL_B, underL_I, underL_Bs, under_Bs, List.mem_cons, List.not_mem_nil, or_false, forall_eq_or_imp, forall_eq, and_self, and_true, true_and, underL_R])))); done) ?_; simp only [↓wt, wu, wk0, wk1, wk2, wk3, Nat.reduceAdd, Nat.reduceEqDiff, Nat.reduceLeDiff, Nat.reduceLT, Nat.reduceMul, Int.reduceLE, Int.reduceLT, Int.reduceEq, Int.reduceNe, wk4, laidS, keepS, underL_R]; refine freeze_rule 1 [3, 4, 5, 7] (by simp only [↓wt, wu, wk0, wk1, wk2, wk3, Nat.reduceAdd, Nat.reduceEqDiff, Nat.reduceLeDiff, Nat.reduceLT, Nat.reduceMul, Int.reduceLE, Int.reduceLT, Int.reduceEq, Int.reduceNe, wk4, laidS, keepS, underL_R]; (try (repeat' (first | (exact fun _ => by simp only [pureL_eq, underL_cons, underL_nil, AV.cells, under_l, under_c, under_g, under_e, under_f, underL_B, underL_I, underL_Bs, under_Bs, List.mem_cons, List.not_mem_nil, or_false, forall_eq_or_imp, forall_eq, and_self, and_true, true_and, underL_R]) | ((with_reducible refine And.intro ?_ ?_)) | (intro _) | omega | (simp only [pureL_eq, underL_cons, underL_nil, AV.cells, under_l, under_c, under_g, under_e, under_f, underL_B, underL_I, underL_Bs, under_Bs, List.mem_cons, List.not_mem_nil, or_false, forall_eq_or_imp, forall_eq, and_self, and_true, true_and, underL_R])))); done) (by simp only [↓wt, wu, wk0, wk1, wk2, wk3, Nat.reduceAdd, Nat.reduceEqDiff, Nat.reduceLeDiff, Nat.reduceLT, Nat.reduceMul, Int.reduceLE, Int.reduceLT, Int.reduceEq, Int.reduceNe, wk4, laidS, keepS, underL_R]; (try (repeat' (first | (exact fun _ => by simp only [pureL_eq, underL_cons, underL_nil, AV.cells, under_l, under_c, under_g, under_e, under_f, underL_B, underL_I, underL_Bs, under_Bs, List.mem_cons, List.not_mem_nil, or_false, forall_eq_or_imp, forall_eq, and_self, and_true, true_and, underL_R]) | ((with_reducible refine And.intro ?_ ?_)) | (intro _) | omega | (simp only [pureL_eq, underL_cons, underL_nil, AV.cells, under_l, under_c, under_g, under_e, under_f, underL_B, underL_I, underL_Bs, under_Bs, List.mem_cons, List.not_mem_nil, or_false, forall_eq_or_imp, forall_eq, and_self, and_true, true_and, underL_R])))); done) ?_; simp only [↓wt, wu, wk0, wk1, wk2, wk3, Nat.reduceAdd, Nat.reduceEqDiff, Nat.reduceLeDiff, Nat.reduceLT, Nat.reduceMul, Int.reduceLE, Int.reduceLT, Int.reduceEq, Int.reduceNe, wk4, laidS, keepS, underL_R]; refine freeze_rule 2 [3, 4, 5, 7] (by simp only [↓wt, wu, wk0, wk1, wk2, wk3, Nat.reduceAdd, Nat.reduceEqDiff, Nat.reduceLeDiff, Nat.reduceLT, Nat.reduceMul, Int.reduceLE, Int.reduceLT, Int.reduceEq, Int.reduceNe, wk4, laidS, keepS, underL_R]; (try (repeat' (first | (exact fun _ => by simp only [pureL_eq, underL_cons, underL_nil, AV.cells, under_l, under_c, under_g, under_e, under_f, underL_B, underL_I, underL_Bs, under_Bs, List.mem_cons, List.not_mem_nil, or_false, forall_eq_or_imp, forall_eq, and_self, and_true, true_and, underL_R]) | ((with_reducible refine And.intro ?_ ?_)) | (intro _) | omega | (simp only [pureL_eq, underL_cons, underL_nil, AV.cells, under_l, under_c, under_g, under_e, under_f, underL_B, underL_I, underL_Bs, under_Bs, List.mem_cons, List.not_mem_nil, or_false, forall_eq_or_imp, forall_eq, and_self, and_true, true_and, underL_R])))); done) (by simp only [↓wt, wu, wk0, wk1, wk2, wk3, Nat.reduceAdd, Nat.reduceEqDiff, Nat.reduceLeDiff, Nat.reduceLT, Nat.reduceMul, Int.reduceLE, Int.reduceLT, Int.reduceEq, Int.reduceNe, wk4, laidS, keepS, underL_R]; (try (repeat' (first | (exact fun _ => by simp only [pureL_eq, underL_cons, underL_nil, AV.cells, under_l, under_c, under_g, under_e, under_f, underL_B, underL_I, underL_Bs, under_Bs, List.mem_cons, List.not_mem_nil, or_false, forall_eq_or_imp, forall_eq, and_self, and_true, true_and, underL_R]) | ((with_reducible refine And.intro ?_ ?_)) | (intro _) | omega | (simp only [pureL_eq, underL_cons, underL_nil, AV.cells, under_l, under_c, under_g, under_e, under_f, underL_B, underL_I, underL_Bs, under_Bs, List.mem_cons, List.not_mem_nil, or_false, forall_eq_or_imp, forall_eq, and_self, and_true, true_and, underL_R])))); done) ?_; simp only [↓wt, wu, wk0, wk1, wk2, wk3, Nat.reduceAdd, Nat.reduceEqDiff, Nat.reduceLeDiff, Nat.reduceLT, Nat.reduceMul, Int.reduceLE, Int.reduceLT, Int.reduceEq, Int.reduceNe, wk4, laidS, keepS, underL_R]
  refine draw_rule tabOk mixed [0, 0, 1, 0, 0, 0, 0, 0, 0, 0, 1, 0, 0, 0, 0, 0, 1, 0, 0, 0, 0, 0, 0, 0, 0] [[], [], [0, 1], [], [], [3, 4], [3, 4, 5], [3, 4, 5, 6], [0, 1, 2, 3, 4, 5, 6, 7], [], [0, 1, 2, 9], [0, 1, 2, 3, 4, 5, 6, 7, 8, 9, 10], [], [], [12, 13], [12, 13, 14], [0, 1, 2, 9, 10, 12, 13, 14, 15], [0, 1, 2, 3, 4, 5, 6, 7, 8, 9, 10, 11, 12, 13, 14, 15, 16], [], [], [18, 19], [18, 19, 20], [18, 19, 20, 21], [0, 1, 2, 3, 4, 5, 6, 7, 8, 9, 10, 11, 12, 13, 14, 15, 16, 17, 18, 19, 20, 21, 22], [0, 1, 2, 3, 4, 5, 6, 7, 8, 9, 10, 11, 12, 13, 14, 15, 16, 17, 18, 19, 20, 21, 22, 23]] (by kernel_rfl) ?_
  simp only [↓wt, wu, wk0, wk1, wk2, wk3, Nat.reduceAdd, Nat.reduceEqDiff, Nat.reduceLeDiff, Nat.reduceLT, Nat.reduceMul, Int.reduceLE, Int.reduceLT, Int.reduceEq, Int.reduceNe, wk4, laidS, keepS]
  refine d_heavyC (icall_drop [] m1 ⟨arg_conf', arg_c, trivial⟩ (.c _) ⟨rfl, rfl⟩) ?_
  simp only [↓wt, wu, wk0, wk1, wk2, wk3, Nat.reduceAdd, Nat.reduceEqDiff, Nat.reduceLeDiff, Nat.reduceLT, Nat.reduceMul, Int.reduceLE, Int.reduceLT, Int.reduceEq, Int.reduceNe, wk4, laidS, keepS, elem_R, RowV_eq]
  repeat (refine And.intro (by omega) ?_)
  refine d_heavyV rfl (icall_drop (args' := [.e [.l 3 (l.map RowV)], .e [.c (.int .i64 w)]]) [] m2 ⟨arg_e (by simp only [underL_R, under_l, under_c, List.mem_cons, List.not_mem_nil, or_false, forall_eq]), arg_e (by simp only [underL_R, under_l, under_c, List.mem_cons, List.not_mem_nil, or_false, forall_eq]), trivial⟩ (.c _) ⟨rfl, rfl⟩) ?_
  simp only [↓wt, wu, wk0, wk1, wk2, wk3, Nat.reduceAdd, Nat.reduceEqDiff, Nat.reduceLeDiff, Nat.reduceLT, Nat.reduceMul, Int.reduceLE, Int.reduceLT, Int.reduceEq, Int.reduceNe, wk4, laidS, keepS, elem_R, RowV_eq]
  repeat (refine And.intro (by omega) ?_)
  refine d_heavyC (icall_drop [] m3 ⟨arg_row, trivial⟩ (.c _) ⟨rfl, rfl⟩) ?_
  have e1 : IntKind.i64.wrap (shareC c w + (rowAt l w).i) = shareC c w + (rowAt l w).i := wrap_i64 (by omega) (by omega)
  have e2 : IntKind.i64.wrap (shareC c w + (rowAt l w).i + came l w l.length) = shareC c w + (rowAt l w).i + came l w l.length := wrap_i64 (by omega) (by omega)
  have e3 : IntKind.i64.wrap (shareC c w + (rowAt l w).i + came l w l.length - sentR (rowAt l w).o) = shareC c w + (rowAt l w).i + came l w l.length - sentR (rowAt l w).o := wrap_i64 (by omega) (by omega)
  have e4 : IntKind.i64.wrap (shareC c w + (rowAt l w).i + came l w l.length - sentR (rowAt l w).o - (rowAt l w).u) = ofC c l w := wrap_i64 (by omega) (by omega)
  simp only [↓wt, wu, wk0, wk1, wk2, wk3, Nat.reduceAdd, Nat.reduceEqDiff, Nat.reduceLeDiff, Nat.reduceLT, Nat.reduceMul, Int.reduceLE, Int.reduceLT, Int.reduceEq, Int.reduceNe, wk4, laidS, keepS, elem_R, RowV_eq, e1, e2, e3, e4]
  repeat (refine And.intro (by omega) ?_)
  simp only [↓wt, wu, wk0, wk1, wk2, wk3, Nat.reduceAdd, Nat.reduceEqDiff, Nat.reduceLeDiff, Nat.reduceLT, Nat.reduceMul, Int.reduceLE, Int.reduceLT, Int.reduceEq, Int.reduceNe, wk4, laidS, keepS, Try.results59]
  exact exp_c
end Go.Ab
