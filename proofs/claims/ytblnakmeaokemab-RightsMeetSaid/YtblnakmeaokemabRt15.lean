/- Rights: the laws RightsShares, RightsMeet, RightsKeep. -/
import Derived.Test.YtblnakmeaokemabRt14
set_option linter.unusedSimpArgs false
set_option linter.unusedVariables false
set_option linter.constructorNameAsVariable false
set_option maxRecDepth 100000
namespace Go.Ab
open Go Go.Proofs Go.RowKit

theorem newB_at {c : Conf} (h : MayC c) {k : Nat} (hk : k < c.n.toNat) : rowAt (newB c) k = ⟨0, 0, List.replicate c.n.toNat 0⟩ := by
  rw [newB, if_pos h, rowAt, List.getD_eq_getElem?_getD, List.getElem?_eq_getElem (by simpa using hk)]
  simp
theorem newB_length {c : Conf} (h : MayC c) : (newB c).length = c.n.toNat := by rw [newB, if_pos h, List.length_replicate]
theorem rep_getD {n k : Nat} : (List.replicate n (0 : Int)).getD k 0 = 0 := by
  rw [List.getD_eq_getElem?_getD, List.getElem?_replicate]
  split <;> rfl
theorem newB_rows {c : Conf} (h : MayC c) : RowsOk c (newB c) := by
  have hn := h.1
  refine ⟨by rw [newB_length h]; omega, fun k hk => ?_⟩
  rw [newB_length h] at hk
  rw [newB_at h hk]
  have hc := h.2.2.2.2.2.1
  refine ⟨⟨⟨by omega, by omega⟩, by simp; omega, show Within 0 1099511627776 from ⟨by decide, by decide⟩, show Within 0 1099511627776 from ⟨by decide, by decide⟩, rep_getD, fun v hv => ?_⟩, hc.1⟩
  rw [List.eq_of_mem_replicate hv]
  exact ⟨by decide, by decide⟩
theorem newB_of {c : Conf} (h : MayC c) {w : Nat} (hw : w < c.n.toNat) : ofC c (newB c) w = shareC c w := by
  have hn := h.1
  have h1 : came (newB c) w (newB c).length = 0 := by
    unfold came
    rw [isum_congr (g := fun _ => 0) fun j hj => ?_, isum_zero]
    rw [newB_length h] at hj
    rw [newB_at h hj]
    exact rep_getD
  have h2 : sentR (List.replicate c.n.toNat (0 : Int)) = 0 := by
    rw [sent_isum (by simp; omega) fun v hv => by rw [List.eq_of_mem_replicate hv]; exact ⟨by decide, by decide⟩]
    rw [isum_congr (g := fun _ => 0) fun j hj => rep_getD, isum_zero]
  unfold ofC
  rw [newB_at h hw, h1, h2]
  dsimp only
  omega
theorem newB_right {c : Conf} (h : MayC c) : RightB c (newB c) := by
  refine ⟨h, newB_rows h, fun k hk => ?_⟩
  rw [newB_length h] at hk
  rw [newB_of h hk]
  exact (share_bnd c k).1
theorem newB_val {c : Conf} (h : MayC c) : valC c (newB c) = c.k := by
  rw [valC, if_pos (newB_right h), net, isum_congr (g := fun _ => 0) fun j hj => ?_, isum_zero]
  · omega
  · rw [newB_length h] at hj
    rw [newB_at h hj]; rfl
theorem ofR_nat {c : Conf} {l : List RowD} (h : RightB c l) {k : Nat} (hk : k < l.length) : ofR c l k = ofC c l k := by
  have := h.2.1.1
  rw [ofR, if_pos ⟨h, by omega, by omega⟩, Int.toNat_natCast]
set_option maxHeartbeats 2000000 in
theorem rightsshares_call (c : Conf) : PCall Try.prog 4 [ConfA c] (.c (.bool true)) := by
  refine pcall_body tabOk Try.func4 rfl rfl (by rw [Try.ntmps4]; simp) ?_
  simp only [Try.ntmps4, ConfA]
  simp only [↓wt, wu, wk0, wk1, wk2, wk3, Nat.reduceAdd, Nat.reduceEqDiff, Nat.reduceLeDiff, Nat.reduceLT, Nat.reduceMul, Int.reduceLE, Int.reduceLT, Int.reduceEq, Int.reduceNe, wk4, laidS, keepS]
  refine icall_drop [] awake_call trivial (.c _) ?_
  simp only [↓wt, wu, wk0, wk1, wk2, wk3, Nat.reduceAdd, Nat.reduceEqDiff, Nat.reduceLeDiff, Nat.reduceLT, Nat.reduceMul, Int.reduceLE, Int.reduceLT, Int.reduceEq, Int.reduceNe, wk4, laidS, keepS]
  refine icall_drop [] (rtmay_call c) ⟨arg_conf', trivial⟩ (.c _) ?_
  simp only [↓wt, wu, wk0, wk1, wk2, wk3, Nat.reduceAdd, Nat.reduceEqDiff, Nat.reduceLeDiff, Nat.reduceLT, Nat.reduceMul, Int.reduceLE, Int.reduceLT, Int.reduceEq, Int.reduceNe, wk4, laidS, keepS]
  refine r_casesN (fun h1 hb => ?_) (fun h1 hb => ?_) <;> simp only [↓wt, wu, wk0, wk1, wk2, wk3, Nat.reduceAdd, Nat.reduceEqDiff, Nat.reduceLeDiff, Nat.reduceLT, Nat.reduceMul, Int.reduceLE, Int.reduceLT, Int.reduceEq, Int.reduceNe, wk4, laidS, keepS, hb]
  · have hn := h1.1
    obtain ⟨n, hcn⟩ : ∃ n : Nat, c.n = n := ⟨c.n.toNat, by omega⟩
    have htn : c.n.toNat = n := by omega
    have hlen := newB_length h1
    rw [htn] at hlen
    have hq := share_q h1
    have hk := h1.2.2.2.2.1
    have e1 : IntKind.i64.wrap (c.k.tdiv c.n) = c.k / c.n := by rw [hq.2.2.2.2.2.1]; exact wrap_i64 (by omega) (by omega)
    have e2 : IntKind.i64.wrap (c.k / c.n + 1) = c.k / c.n + 1 := wrap_i64 (by omega) (by omega)
    refine icall_drop [] (new_call c) ⟨arg_conf', trivial⟩ okR_books ?_
    simp only [↓wt, wu, wk0, wk1, wk2, wk3, Nat.reduceAdd, Nat.reduceEqDiff, Nat.reduceLeDiff, Nat.reduceLT, Nat.reduceMul, Int.reduceLE, Int.reduceLT, Int.reduceEq, Int.reduceNe, wk4, laidS, keepS, BooksV]
    refine freeze_rule 0 [1, 3, 4, 5] (by simp only [↓wt, wu, wk0, wk1, wk2, wk3, Nat.reduceAdd, Nat.reduceEqDiff, Nat.reduceLeDiff, Nat.reduceLT, Nat.reduceMul, Int.reduceLE, Int.reduceLT, Int.reduceEq, Int.reduceNe, wk4, laidS, keepS, underL_R]; (try (repeat' (first | (exact fun _ => by simp only [pureL_eq, underL_cons, underL_nil, AV.cells, under_l, under_c, under_g, under_e, under_f, underL_B, underL_I, underL_Bs, under_Bs, List.mem_cons, List.not_mem_nil, or_false, forall_eq_or_imp, forall_eq, and_self, and_true, true_and, underL_R]) | ((with_reducible refine And.intro ?_ ?_)) | (intro _) | omega | (simp only [pureL_eq, underL_cons, underL_nil, AV.cells, under_l, under_c, under_g, under_e, under_f, underL_B, underL_I, underL_Bs, under_Bs, List.mem_cons, List.not_mem_nil, or_false, forall_eq_or_imp, forall_eq, and_self, and_true, true_and, underL_R])))); done) (by simp only [↓wt, wu, wk0, wk1, wk2, wk3, Nat.reduceAdd, Nat.reduceEqDiff, Nat.reduceLeDiff, Nat.reduceLT, Nat.reduceMul, Int.reduceLE, Int.reduceLT, Int.reduceEq, Int.reduceNe, wk4, laidS, keepS, underL_R]; (try (repeat' (first | (exact fun _ => by simp only [pureL_eq, underL_cons, underL_nil, AV.cells, under_l, under_c, under_g, under_e, under_f, underL_B, underL_I, underL_Bs, under_Bs, List.mem_cons, List.not_mem_nil, or_false, forall_eq_or_imp, forall_eq, and_self, and_true, true_and, underL_R]) | ((with_reducible refine And.intro ?_ ?_)) | (intro _) | omega | (simp only [pureL_eq, underL_cons, underL_nil, AV.cells, under_l, under_c, under_g, under_e, under_f, underL_B, underL_I, underL_Bs, under_Bs, List.mem_cons, List.not_mem_nil, or_false, forall_eq_or_imp, forall_eq, and_self, and_true, true_and, underL_R])))); done) ?_; simp only [↓wt, wu, wk0, wk1, wk2, wk3, Nat.reduceAdd, Nat.reduceEqDiff, Nat.reduceLeDiff, Nat.reduceLT, Nat.reduceMul, Int.reduceLE, Int.reduceLT, Int.reduceEq, Int.reduceNe, wk4, laidS, keepS, underL_R]
    refine loop_ruleC tabOk [1, 4] (fun k : Nat => [(3, .c (.int .i64 (isum (fun w => shareC c w) k))), (5, .c (.int .i64 k))]) (fun k => k ≤ n) (fun k => n - k) 0 (by omega) ?_ ?_
    · simp only [↓wt, wu, wk0, wk1, wk2, wk3, wkf, Nat.reduceAdd, Nat.reduceEqDiff, Nat.reduceLeDiff, Nat.reduceLT, Nat.reduceMul, Int.reduceLE, Int.reduceLT, Int.reduceEq, Int.reduceNe, wk4, laidS, keepS, isum, underL_R, under_e]
    · intro k hkn
      have e3 := wi_succ (k := k) (by omega)
      simp only [↓wt, wu, wk0, wk1, wk2, wk3, Nat.reduceAdd, Nat.reduceEqDiff, Nat.reduceLeDiff, Nat.reduceLT, Nat.reduceMul, Int.reduceLE, Int.reduceLT, Int.reduceEq, Int.reduceNe, wk4, laidS, keepS]
      refine r_casesD (fun hp hb => ?_) (fun hp hb => ?_) <;> simp only [↓wt, wu, wk0, wk1, wk2, wk3, Nat.reduceAdd, Nat.reduceEqDiff, Nat.reduceLeDiff, Nat.reduceLT, Nat.reduceMul, Int.reduceLE, Int.reduceLT, Int.reduceEq, Int.reduceNe, wk4, laidS, keepS, hb]
      · have hkl : k < n := by omega
        have b0 := share_bnd c k
        have b1 := isum_bnd (f := fun w => shareC c w) (lo := 0) (hi := 1099511627777) (k := k) fun j _ => share_bnd c j
        have e4 : IntKind.i64.wrap (isum (fun w => shareC c w) k + shareC c k) = isum (fun w => shareC c w) (k + 1) := by rw [wrap_i64 (by omega) (by omega)]; rfl
        have hs : c.k / c.n ≤ shareC c k ∧ shareC c k ≤ c.k / c.n + 1 := by
          rw [shareC, if_pos ⟨h1, by omega, by omega⟩]
          split <;> omega
        have d1 : decide (shareC c k < c.k / c.n) = false := decide_eq_false (by omega)
        have d2 : decide (shareC c k > c.k / c.n + 1) = false := decide_eq_false (by omega)
        have m1 := Of_call c (newB c) k (newB_lens c)
        rw [ofR_nat (newB_right h1) (by omega), newB_of h1 (by omega)] at m1
        refine icall_drop [] (share_call c k) ⟨arg_conf', arg_c, trivial⟩ (.c _) ?_
        simp only [↓wt, wu, wk0, wk1, wk2, wk3, Nat.reduceAdd, Nat.reduceEqDiff, Nat.reduceLeDiff, Nat.reduceLT, Nat.reduceMul, Int.reduceLE, Int.reduceLT, Int.reduceEq, Int.reduceNe, wk4, laidS, keepS, e1, e2, e3, e4, d1, d2]
        repeat (refine And.intro (by omega) ?_)
        refine icall_drop [] m1 ⟨arg_conf', arg_books, arg_c, trivial⟩ (.c _) ?_
        simp only [↓wt, wu, wk0, wk1, wk2, wk3, Nat.reduceAdd, Nat.reduceEqDiff, Nat.reduceLeDiff, Nat.reduceLT, Nat.reduceMul, Int.reduceLE, Int.reduceLT, Int.reduceEq, Int.reduceNe, wk4, laidS, keepS, e3, e4]
        refine ⟨k + 1, by omega, by omega, ?_⟩
        simp only [↓wt, wu, wk0, wk1, wk2, wk3, wkf, Nat.reduceAdd, Nat.reduceEqDiff, Nat.reduceLeDiff, Nat.reduceLT, Nat.reduceMul, Int.reduceLE, Int.reduceLT, Int.reduceEq, Int.reduceNe, wk4, laidS, keepS, e3, e4, underL_R, under_e]
      · have hk2 : k = n := by omega
        subst hk2
        have hsum := share_sum h1 (n := k) hcn.symm
        have m2 := rright_call c (newB c) (newB_lens c)
        have m3 := value_call c (newB c) (newB_lens c)
        rw [newB_val h1] at m3
        have hr : decide (RightB c (newB c)) = true := decide_eq_true (newB_right h1)
        rw [hr] at m2
        refine draw_rule tabOk mixed [0, 0, 0, 0, 0, 0, 0, 1, 0, 0, 0, 0, 1, 0, 0, 0, 0, 0] [[], [], [1], [0, 1, 2], [0, 1, 2, 3], [0, 1, 2, 3, 4], [0, 1, 2, 3, 4], [0, 1, 2, 3, 4, 5, 6], [0, 1, 2, 3, 4, 5, 6, 7], [0, 1, 2, 3, 4, 5, 6, 7, 8], [0, 1, 2, 3, 4, 5, 6, 7, 8, 9], [0, 1, 2, 3, 4, 5, 6, 7, 8, 9], [0, 1, 2, 3, 4, 5, 6, 7, 8, 9, 10, 11], [0, 1, 2, 3, 4, 5, 6, 7, 8, 9], [0, 1, 2, 3, 4, 5, 6, 7, 8, 9, 13], [0, 1, 2, 3, 4, 5, 6, 7, 8, 9, 10, 11, 12, 13, 14], [0, 1, 2, 3, 4, 5, 6, 7, 8, 9, 10, 11, 12, 13, 14, 15], [0, 1, 2, 3, 4, 5, 6, 7, 8, 9, 10, 11, 12, 13, 14, 15, 16]] (by kernel_rfl) ?_
        simp only [↓wt, wu, wk0, wk1, wk2, wk3, Nat.reduceAdd, Nat.reduceEqDiff, Nat.reduceLeDiff, Nat.reduceLT, Nat.reduceMul, Int.reduceLE, Int.reduceLT, Int.reduceEq, Int.reduceNe, wk4, laidS, keepS, hsum]
        refine d_heavyC (icall_drop [] m2 ⟨arg_conf', arg_books, trivial⟩ (.c _) ⟨rfl, rfl⟩) ?_
        simp only [↓wt, wu, wk0, wk1, wk2, wk3, Nat.reduceAdd, Nat.reduceEqDiff, Nat.reduceLeDiff, Nat.reduceLT, Nat.reduceMul, Int.reduceLE, Int.reduceLT, Int.reduceEq, Int.reduceNe, wk4, laidS, keepS]
        refine d_heavyC (icall_drop [] m3 ⟨arg_conf', arg_books, trivial⟩ (.c _) ⟨rfl, rfl⟩) ?_
        simp only [↓wt, wu, wk0, wk1, wk2, wk3, Nat.reduceAdd, Nat.reduceEqDiff, Nat.reduceLeDiff, Nat.reduceLT, Nat.reduceMul, Int.reduceLE, Int.reduceLT, Int.reduceEq, Int.reduceNe, wk4, laidS, keepS, Try.results4]
        exact exp_c
  · have m1 := new_call c
    rw [newB, if_neg h1] at m1
    refine icall_drop [] m1 ⟨arg_conf', trivial⟩ okR_books ?_
    simp only [↓wt, wu, wk0, wk1, wk2, wk3, Nat.reduceAdd, Nat.reduceEqDiff, Nat.reduceLeDiff, Nat.reduceLT, Nat.reduceMul, Int.reduceLE, Int.reduceLT, Int.reduceEq, Int.reduceNe, wk4, laidS, keepS, BooksV, List.map_nil, Try.results4]
    exact exp_c
set_option maxHeartbeats 2000000 in
theorem rightsmeet_call (c : Conf) (a b : List RowD) (wa : Wide a) (wb : Wide b) : PCall Try.prog 8 [ConfA c, BooksV a, BooksV b] (.c (.bool true)) := by
  refine pcall_body tabOk Try.func8 rfl rfl (by rw [Try.ntmps8]; simp) ?_
  simp only [Try.ntmps8, ConfA, BooksV]
  simp only [↓wt, wu, wk0, wk1, wk2, wk3, Nat.reduceAdd, Nat.reduceEqDiff, Nat.reduceLeDiff, Nat.reduceLT, Nat.reduceMul, Int.reduceLE, Int.reduceLT, Int.reduceEq, Int.reduceNe, wk4, laidS, keepS]
  refine icall_drop [] awake_call trivial (.c _) ?_
  simp only [↓wt, wu, wk0, wk1, wk2, wk3, Nat.reduceAdd, Nat.reduceEqDiff, Nat.reduceLeDiff, Nat.reduceLT, Nat.reduceMul, Int.reduceLE, Int.reduceLT, Int.reduceEq, Int.reduceNe, wk4, laidS, keepS]
  refine icall_drop [] (short_call a wa) ⟨arg_books, trivial⟩ (.c _) ?_
  simp only [↓wt, wu, wk0, wk1, wk2, wk3, Nat.reduceAdd, Nat.reduceEqDiff, Nat.reduceLeDiff, Nat.reduceLT, Nat.reduceMul, Int.reduceLE, Int.reduceLT, Int.reduceEq, Int.reduceNe, wk4, laidS, keepS]
  refine r_gcasesN (fun h1 hb => ?_) (fun h1 hb => ?_) <;> simp only [↓wt, wu, wk0, wk1, wk2, wk3, Nat.reduceAdd, Nat.reduceEqDiff, Nat.reduceLeDiff, Nat.reduceLT, Nat.reduceMul, Int.reduceLE, Int.reduceLT, Int.reduceEq, Int.reduceNe, wk4, laidS, keepS, hb]
  rotate_left
  · simp only [↓wt, wu, wk0, wk1, wk2, wk3, Nat.reduceAdd, Nat.reduceEqDiff, Nat.reduceLeDiff, Nat.reduceLT, Nat.reduceMul, Int.reduceLE, Int.reduceLT, Int.reduceEq, Int.reduceNe, wk4, laidS, keepS, Try.results8]
    exact exp_c
  refine icall_drop [] (short_call b wb) ⟨arg_books, trivial⟩ (.c _) ?_
  simp only [↓wt, wu, wk0, wk1, wk2, wk3, Nat.reduceAdd, Nat.reduceEqDiff, Nat.reduceLeDiff, Nat.reduceLT, Nat.reduceMul, Int.reduceLE, Int.reduceLT, Int.reduceEq, Int.reduceNe, wk4, laidS, keepS]
  refine r_casesN (fun h2 hb => ?_) (fun h2 hb => ?_) <;> simp only [↓wt, wu, wk0, wk1, wk2, wk3, Nat.reduceAdd, Nat.reduceEqDiff, Nat.reduceLeDiff, Nat.reduceLT, Nat.reduceMul, Int.reduceLE, Int.reduceLT, Int.reduceEq, Int.reduceNe, wk4, laidS, keepS, hb]
  rotate_left
  · simp only [↓wt, wu, wk0, wk1, wk2, wk3, Nat.reduceAdd, Nat.reduceEqDiff, Nat.reduceLeDiff, Nat.reduceLT, Nat.reduceMul, Int.reduceLE, Int.reduceLT, Int.reduceEq, Int.reduceNe, wk4, laidS, keepS, Try.results8]
    exact exp_c
  have la := short_lens h1
  have lb := short_lens h2
  have m1 := rtjoin_call c a b la lb
  have m2 := rtjoin_call c b a lb la
  rw [joinR_comm c b a] at m2
  have m3 := rtjoin_call c a a la la
  rw [joinR_self] at m3
  have hx := joinR_lens (c := c) (b := b) la
  have hjt := joinR_twice (c := c) (a := a) (b := b)
  have hne : (joinR c a b).2 ≠ 0 → (joinR c a b).1 = [] := fun h => by
    unfold joinR at h ⊢
    split
    · rfl
    · split
      · rfl
      · rename_i g1 g2; simp [g1, g2] at h
  have m4 := rtjoin_call c (joinR c a b).1 b hx lb
  generalize joinR c a b = X at m1 m2 hx hjt hne m4
  refine icall_drop [] m1 ⟨arg_conf', arg_books, arg_books, trivial⟩ okR_booksC ?_
  simp only [↓wt, wu, wk0, wk1, wk2, wk3, Nat.reduceAdd, Nat.reduceEqDiff, Nat.reduceLeDiff, Nat.reduceLT, Nat.reduceMul, Int.reduceLE, Int.reduceLT, Int.reduceEq, Int.reduceNe, wk4, laidS, keepS, BooksC, BooksV]
  refine icall_drop [] m2 ⟨arg_conf', arg_books, arg_books, trivial⟩ okR_booksC ?_
  simp only [↓wt, wu, wk0, wk1, wk2, wk3, Nat.reduceAdd, Nat.reduceEqDiff, Nat.reduceLeDiff, Nat.reduceLT, Nat.reduceMul, Int.reduceLE, Int.reduceLT, Int.reduceEq, Int.reduceNe, wk4, laidS, keepS, BooksC, BooksV]
  refine icall_drop [] m3 ⟨arg_conf', arg_books, arg_books, trivial⟩ okR_booksC ?_
  simp only [↓wt, wu, wk0, wk1, wk2, wk3, Nat.reduceAdd, Nat.reduceEqDiff, Nat.reduceLeDiff, Nat.reduceLT, Nat.reduceMul, Int.reduceLE, Int.reduceLT, Int.reduceEq, Int.reduceNe, wk4, laidS, keepS, BooksC, BooksV]
  refine icall_drop [] (rsameB_call _ _ hx) ⟨arg_books, arg_books, trivial⟩ (.c _) ?_
  by_cases h3 : RightB c a
  · have hr : decide (RightB c a) = true := decide_eq_true h3
    simp only [if_pos h3]
    simp only [↓wt, wu, wk0, wk1, wk2, wk3, Nat.reduceAdd, Nat.reduceEqDiff, Nat.reduceLeDiff, Nat.reduceLT, Nat.reduceMul, Int.reduceLE, Int.reduceLT, Int.reduceEq, Int.reduceNe, wk4, laidS, keepS]
    refine icall_drop [] (rsameB_call _ _ la) ⟨arg_books, arg_books, trivial⟩ (.c _) ?_
    simp only [↓wt, wu, wk0, wk1, wk2, wk3, Nat.reduceAdd, Nat.reduceEqDiff, Nat.reduceLeDiff, Nat.reduceLT, Nat.reduceMul, Int.reduceLE, Int.reduceLT, Int.reduceEq, Int.reduceNe, wk4, laidS, keepS]
    refine icall_drop [] (rright_call c a la) ⟨arg_conf', arg_books, trivial⟩ (.c _) ?_
    simp only [↓wt, wu, wk0, wk1, wk2, wk3, Nat.reduceAdd, Nat.reduceEqDiff, Nat.reduceLeDiff, Nat.reduceLT, Nat.reduceMul, Int.reduceLE, Int.reduceLT, Int.reduceEq, Int.reduceNe, wk4, laidS, keepS, hr]
    refine r_casesN (fun h4 hb => ?_) (fun h4 hb => ?_) <;> simp only [↓wt, wu, wk0, wk1, wk2, wk3, Nat.reduceAdd, Nat.reduceEqDiff, Nat.reduceLeDiff, Nat.reduceLT, Nat.reduceMul, Int.reduceLE, Int.reduceLT, Int.reduceEq, Int.reduceNe, wk4, laidS, keepS, hb]
    · obtain ⟨j1, j2, j3⟩ := hjt h4
      have hj : decide (RightB c (joinB a b)) = true := decide_eq_true j3
      rw [j1] at m4
      rw [j2] at m4 hx
      simp only [j2]
      refine icall_drop [] m4 ⟨arg_conf', arg_books, arg_books, trivial⟩ okR_booksC ?_
      simp only [↓wt, wu, wk0, wk1, wk2, wk3, Nat.reduceAdd, Nat.reduceEqDiff, Nat.reduceLeDiff, Nat.reduceLT, Nat.reduceMul, Int.reduceLE, Int.reduceLT, Int.reduceEq, Int.reduceNe, wk4, laidS, keepS, BooksC, BooksV]
      refine icall_drop [] (rsameB_call _ _ hx) ⟨arg_books, arg_books, trivial⟩ (.c _) ?_
      simp only [↓wt, wu, wk0, wk1, wk2, wk3, Nat.reduceAdd, Nat.reduceEqDiff, Nat.reduceLeDiff, Nat.reduceLT, Nat.reduceMul, Int.reduceLE, Int.reduceLT, Int.reduceEq, Int.reduceNe, wk4, laidS, keepS]
      refine icall_drop [] (rright_call c _ hx) ⟨arg_conf', arg_books, trivial⟩ (.c _) ?_
      simp only [↓wt, wu, wk0, wk1, wk2, wk3, Nat.reduceAdd, Nat.reduceEqDiff, Nat.reduceLeDiff, Nat.reduceLT, Nat.reduceMul, Int.reduceLE, Int.reduceLT, Int.reduceEq, Int.reduceNe, wk4, laidS, keepS, hj, Try.results8]
      exact exp_c
    · have hn := hne h4
      simp only [↓wt, wu, wk0, wk1, wk2, wk3, Nat.reduceAdd, Nat.reduceEqDiff, Nat.reduceLeDiff, Nat.reduceLT, Nat.reduceMul, Int.reduceLE, Int.reduceLT, Int.reduceEq, Int.reduceNe, wk4, laidS, keepS, hn, List.map_nil, Try.results8]
      exact exp_c
  · have hr : decide (RightB c a) = false := decide_eq_false h3
    simp only [if_neg h3]
    simp only [↓wt, wu, wk0, wk1, wk2, wk3, Nat.reduceAdd, Nat.reduceEqDiff, Nat.reduceLeDiff, Nat.reduceLT, Nat.reduceMul, Int.reduceLE, Int.reduceLT, Int.reduceEq, Int.reduceNe, wk4, laidS, keepS]
    refine icall_drop [] (rright_call c a la) ⟨arg_conf', arg_books, trivial⟩ (.c _) ?_
    simp only [↓wt, wu, wk0, wk1, wk2, wk3, Nat.reduceAdd, Nat.reduceEqDiff, Nat.reduceLeDiff, Nat.reduceLT, Nat.reduceMul, Int.reduceLE, Int.reduceLT, Int.reduceEq, Int.reduceNe, wk4, laidS, keepS, hr]
    refine r_casesN (fun h4 hb => ?_) (fun h4 hb => ?_) <;> simp only [↓wt, wu, wk0, wk1, wk2, wk3, Nat.reduceAdd, Nat.reduceEqDiff, Nat.reduceLeDiff, Nat.reduceLT, Nat.reduceMul, Int.reduceLE, Int.reduceLT, Int.reduceEq, Int.reduceNe, wk4, laidS, keepS, hb]
    · obtain ⟨j1, j2, j3⟩ := hjt h4
      have hj : decide (RightB c (joinB a b)) = true := decide_eq_true j3
      rw [j1] at m4
      rw [j2] at m4 hx
      simp only [j2]
      refine icall_drop [] m4 ⟨arg_conf', arg_books, arg_books, trivial⟩ okR_booksC ?_
      simp only [↓wt, wu, wk0, wk1, wk2, wk3, Nat.reduceAdd, Nat.reduceEqDiff, Nat.reduceLeDiff, Nat.reduceLT, Nat.reduceMul, Int.reduceLE, Int.reduceLT, Int.reduceEq, Int.reduceNe, wk4, laidS, keepS, BooksC, BooksV]
      refine icall_drop [] (rsameB_call _ _ hx) ⟨arg_books, arg_books, trivial⟩ (.c _) ?_
      simp only [↓wt, wu, wk0, wk1, wk2, wk3, Nat.reduceAdd, Nat.reduceEqDiff, Nat.reduceLeDiff, Nat.reduceLT, Nat.reduceMul, Int.reduceLE, Int.reduceLT, Int.reduceEq, Int.reduceNe, wk4, laidS, keepS]
      refine icall_drop [] (rright_call c _ hx) ⟨arg_conf', arg_books, trivial⟩ (.c _) ?_
      simp only [↓wt, wu, wk0, wk1, wk2, wk3, Nat.reduceAdd, Nat.reduceEqDiff, Nat.reduceLeDiff, Nat.reduceLT, Nat.reduceMul, Int.reduceLE, Int.reduceLT, Int.reduceEq, Int.reduceNe, wk4, laidS, keepS, hj, Try.results8]
      exact exp_c
    · have hn := hne h4
      simp only [↓wt, wu, wk0, wk1, wk2, wk3, Nat.reduceAdd, Nat.reduceEqDiff, Nat.reduceLeDiff, Nat.reduceLT, Nat.reduceMul, Int.reduceLE, Int.reduceLT, Int.reduceEq, Int.reduceNe, wk4, laidS, keepS, hn, List.map_nil, Try.results8]
      exact exp_c

theorem putR_ok {c : Conf} {l : List RowD} {w a : Int} (h : (putR c l w a).2 = 0) : RightB c (putR c l w a).1 ∧ valC c (putR c l w a).1 = valC c l + a ∧ 1 ≤ a ∧ a ≤ 1099511627776 := by
  unfold putR at h ⊢
  split at h
  · exact absurd h (by assumption)
  · rename_i h0
    split at h
    · simp at h
    · rename_i h5
      obtain ⟨h1, h2, h3, h4⟩ := ask_zero (Decidable.not_not.1 h0)
      have hw := there_nat h1 h2
      obtain ⟨r1, r2⟩ := put_right h1 hw.2 h3 (by omega)
      simp only [h0, if_false, h5]
      refine ⟨r1, ?_, h3, h4⟩
      rw [valC, valC, if_pos r1, if_pos h1, List.length_set, r2]; omega
theorem takeR_ok {c : Conf} {l : List RowD} {w a : Int} (h : (takeR c l w a).2 = 0) : RightB c (takeR c l w a).1 ∧ valC c (takeR c l w a).1 = valC c l - a ∧ 1 ≤ a ∧ a ≤ 1099511627776 := by
  unfold takeR at h ⊢
  split at h
  · exact absurd h (by assumption)
  · rename_i h0
    split at h
    · simp at h
    · rename_i h5
      split at h
      · simp at h
      · rename_i h6
        obtain ⟨h1, h2, h3, h4⟩ := ask_zero (Decidable.not_not.1 h0)
        have hw := there_nat h1 h2
        obtain ⟨r1, r2⟩ := take_right h1 hw.2 h3 (by omega) (by omega)
        simp only [h0, if_false, h5, h6]
        refine ⟨r1, ?_, h3, h4⟩
        rw [valC, valC, if_pos r1, if_pos h1, List.length_set, r2]; omega
theorem moveR_ok {c : Conf} {l : List RowD} {w to a : Int} (h : (moveR c l w to a).2 = 0) : RightB c (moveR c l w to a).1 ∧ valC c (moveR c l w to a).1 = valC c l ∧ ofR c (moveR c l w to a).1 to = ofR c l to + a ∧ 1 ≤ a ∧ a ≤ 1099511627776 := by
  unfold moveR at h ⊢
  split at h
  · simp at h
  · rename_i hg
    split at h
    · exact absurd h (by assumption)
    · rename_i h0
      split at h
      · simp at h
      · rename_i h5
        split at h
        · simp at h
        · rename_i h6
          obtain ⟨h1, h2, h3, h4⟩ := ask_zero (Decidable.not_not.1 h0)
          have hw := there_nat h1 h2
          have ht : There c to := Decidable.not_not.1 fun k => hg (.inl k)
          have hto := there_nat h1 ht
          have hne : w ≠ to := fun k => hg (.inr k)
          obtain ⟨r1, r2, r3⟩ := move_right h1 hw.2 hto.2 (by omega) h3 (by omega) (by omega)
          simp only [hg, h0, if_false, h5, h6]
          refine ⟨r1, ?_, ?_, h3, h4⟩
          · rw [valC, valC, if_pos r1, if_pos h1, List.length_set, r2]
          · rw [ofR, ofR, if_pos ⟨r1, ht⟩, if_pos ⟨h1, ht⟩, r3]
end Go.Ab
