/- Rights: put, taken, moved: by the document. -/
import Derived.Test.YtblnakmeaokemacRt8
set_option linter.unusedSimpArgs false
set_option linter.unusedVariables false
set_option linter.constructorNameAsVariable false
set_option maxRecDepth 100000
namespace Go.Ab
open Go Go.Proofs Go.RowKit

theorem rn_W {f : Nat → Nat} {l : List RowD} {w a : Nat} : (rowsW l w a).map (rnE f) = rowsW l w (f a) := by
  have h : (l.map RowV).map (rnE f) = l.map RowV := rn_data fun x hx => by
    obtain ⟨r, _, rfl⟩ := List.mem_map.1 hx
    rfl
  rw [rowsW, List.map_set, h]
  rfl
theorem hd_W {n : Nat} {l : List RowD} {w a : Nat} (h : a < n) : ∀ x ∈ rowsW l w a, HdE n x := fun x hx => by
  have := mem_rowsW (k := (rowsW l w a).length) (by rw [List.take_length]; exact hx)
  rcases this with ⟨r, rfl⟩ | rfl
  · intro c hc
    simp only [List.mem_cons, List.not_mem_nil, or_false] at hc
    rcases hc with rfl | rfl | rfl
    · exact .c _
    · exact .c _
    · exact .l _ _ (pureI _)
  · intro c hc
    simp only [List.mem_cons, List.not_mem_nil, or_false] at hc
    rcases hc with rfl | rfl | rfl
    · exact .c _
    · exact .c _
    · exact h
theorem elem_W {l : List RowD} {w a : Nat} {K : AV → Prop} : Elem (rowsW l w a) w K = (w < l.length ∧ K (.g [.c (.int .i64 (rowAt l w).i), .c (.int .i64 (rowAt l w).u), .s a 0 (rowAt l w).o.length])) := by
  rw [rowsW, elem_set, List.length_map]
theorem set_W {l : List RowD} {w a : Nat} {x : AV} : (rowsW l w a).set w x = (l.map RowV).set w x := List.set_set ..
/-- A row is given up that was the call's own: data from now on. -/
theorem exp_setR {M0 M : Mem} {l : List RowD} {w o a n : Nat} {i u e : Int} {os : List Int} {p : List RowD × Int} (h : M.get o = some ⟨47, 3, ((l.map RowV).set w (.g [.c (.int .i64 i), .c (.int .i64 u), .s a 0 os.length])).map (frzE M0 a)⟩)
    (ha : M0.get a = some ⟨2, 1, os.map encI⟩) (hn : n = l.length) (hp : p = (l.set w ⟨i, u, os⟩, e)) : Exp M (.t [.s o 0 n, .c (.int .i64 e)]) (BooksC p) := by
  subst hp hn
  have hx : frzE M0 a (.g [.c (.int .i64 i), .c (.int .i64 u), .s a 0 os.length]) = RowV ⟨i, u, os⟩ := by
    simp [frzE, frzC, frz0, ha, RowV, RowA]
  rw [List.map_set, frz_R, hx, ← List.map_set] at h
  exact exp_tA (xT_cons (xA_frz h (by simp) rfl (pureR _)) (xT_cons xA_c xT_nil))
theorem bok_S {M : Mem} {l : List RowD} {w a n : Nat} {i u : Int} {os : List Int} (h : M.get a = some ⟨2, 1, os.map encI⟩) (hn : n = os.length) : (∀ x ∈ (l.map RowV).set w (.g [.c (.int .i64 i), .c (.int .i64 u), .s a 0 n]), ∀ c ∈ x.cells, FOk M a c) := fun x hx c hc => by
  rcases List.mem_or_eq_of_mem_set hx with hx | rfl
  · have := (bok_R (M := M) (id := a) (l := l)).mpr trivial
    exact this x hx c hc
  · simp only [AV.cells, List.mem_cons, List.not_mem_nil, or_false] at hc
    rcases hc with rfl | rfl | rfl
    · trivial
    · trivial
    · exact fun _ => ⟨_, h, by simpa using hn, pureI _⟩
theorem rcopy0w_call (l : List RowD) (w : Nat) (hl : Lens l) (hw : w < l.length) (h0 : w = 0) : ICall Try.prog 45 [BooksV l] ⟨[], 0⟩ (fun a M' => a = .s 2 0 l.length ∧ M' = ⟨[(0, ⟨2, 1, (rowAt l w).o.map encI⟩), (2, ⟨47, 3, rowsW l w 0⟩)], 3⟩) := by
  subst h0
  exact rcopy0_call l hl hw
theorem bok_conf {M : Mem} {id : Nat} {c : Conf} : ∀ x ∈ [AV.g [.c (.int .i64 c.n), .c (.int .i64 c.q), .c (.int .i64 c.r), .c (.int .i64 c.p), .c (.int .i64 c.k), .c (.int .i64 c.c)]], ∀ d ∈ x.cells, FOk M id d := fun x hx d hd => by
  simp only [List.mem_singleton] at hx
  subst hx
  simp only [AV.cells, List.mem_cons, List.not_mem_nil, or_false] at hd
  rcases hd with rfl | rfl | rfl | rfl | rfl | rfl <;> trivial
theorem fokR_ne {M : Mem} {o a n : Nat} {v : Value} (h : o ≠ a) : FOkR M a (.t [.s o 0 n, .c v]) := fun x hx => by
  simp only [List.mem_cons, List.not_mem_nil, or_false] at hx
  rcases hx with rfl | rfl
  · exact fun e => absurd e h
  · trivial
set_option maxHeartbeats 2000000 in
theorem rmove_call (c : Conf) (l : List RowD) (w to a : Int) (hl : Lens l) : PCall Try.prog 22 [ConfA c, BooksV l, .c (.int .i64 w), .c (.int .i64 to), .c (.int .i64 a)] (BooksC (moveR c l w to a)) := by
  have m1 := rasked_call c l w a hl
  have hask : askC c l w a = 0 ∨ askC c l w a = 1 ∨ askC c l w a = 2 := by unfold askC; split <;> (try split) <;> omega
  refine pcall_bodyF tabOk Try.func22 rfl rfl (by rw [Try.ntmps22]; simp) ?_
  simp only [Try.ntmps22, ConfA, BooksV]
  simp only [↓wt, wu, wk0, wk1, wk2, wk3, Nat.reduceAdd, Nat.reduceEqDiff, Nat.reduceLeDiff, Nat.reduceLT, Nat.reduceMul, Int.reduceLE, Int.reduceLT, Int.reduceEq, Int.reduceNe, wk4, laidS, keepS]
  refine icall_drop [] m1 ⟨arg_conf', arg_books, arg_c, arg_c, trivial⟩ (.c _) ?_
  simp only [↓wt, wu, wk0, wk1, wk2, wk3, Nat.reduceAdd, Nat.reduceEqDiff, Nat.reduceLeDiff, Nat.reduceLT, Nat.reduceMul, Int.reduceLE, Int.reduceLT, Int.reduceEq, Int.reduceNe, wk4, laidS, keepS]
  rcases hask with h0 | h0 | h0
  · obtain ⟨h1, h2, h3, h4⟩ := ask_zero h0
    obtain ⟨q1, q2, q3, q4, q5, q6, q7, q8, q9, q10⟩ := right_at h1 h2
    have q11 := q10 to.toNat
    simp only [↓wt, wu, wk0, wk1, wk2, wk3, Nat.reduceAdd, Nat.reduceEqDiff, Nat.reduceLeDiff, Nat.reduceLT, Nat.reduceMul, Int.reduceLE, Int.reduceLT, Int.reduceEq, Int.reduceNe, wk4, laidS, keepS, h0]
    repeat' (first | (refine r_casesD (fun hp hb => ?_) (fun hp hb => ?_) <;> simp only [↓wt, wu, wk0, wk1, wk2, wk3, Nat.reduceAdd, Nat.reduceEqDiff, Nat.reduceLeDiff, Nat.reduceLT, Nat.reduceMul, Int.reduceLE, Int.reduceLT, Int.reduceEq, Int.reduceNe, wk4, laidS, keepS, h0, Try.results22, hb]) | (refine r_casesN (fun hp hb => ?_) (fun hp hb => ?_) <;> simp only [↓wt, wu, wk0, wk1, wk2, wk3, Nat.reduceAdd, Nat.reduceEqDiff, Nat.reduceLeDiff, Nat.reduceLT, Nat.reduceMul, Int.reduceLE, Int.reduceLT, Int.reduceEq, Int.reduceNe, wk4, laidS, keepS, h0, Try.results22, hb]) | (refine r_casesM (fun hp hb => ?_) (fun hp hb => ?_) <;> simp only [↓wt, wu, wk0, wk1, wk2, wk3, Nat.reduceAdd, Nat.reduceEqDiff, Nat.reduceLeDiff, Nat.reduceLT, Nat.reduceMul, Int.reduceLE, Int.reduceLT, Int.reduceEq, Int.reduceNe, wk4, laidS, keepS, h0, Try.results22, hb]) | (refine r_casesB (fun hp hb => ?_) (fun hp hb => ?_) <;> simp only [↓wt, wu, wk0, wk1, wk2, wk3, Nat.reduceAdd, Nat.reduceEqDiff, Nat.reduceLeDiff, Nat.reduceLT, Nat.reduceMul, Int.reduceLE, Int.reduceLT, Int.reduceEq, Int.reduceNe, wk4, laidS, keepS, h0, Try.results22, hb]) | (refine r_gcasesD (fun hp hb => ?_) (fun hp hb => ?_) <;> simp only [↓wt, wu, wk0, wk1, wk2, wk3, Nat.reduceAdd, Nat.reduceEqDiff, Nat.reduceLeDiff, Nat.reduceLT, Nat.reduceMul, Int.reduceLE, Int.reduceLT, Int.reduceEq, Int.reduceNe, wk4, laidS, keepS, h0, Try.results22, hb]) | (refine r_gcasesN (fun hp hb => ?_) (fun hp hb => ?_) <;> simp only [↓wt, wu, wk0, wk1, wk2, wk3, Nat.reduceAdd, Nat.reduceEqDiff, Nat.reduceLeDiff, Nat.reduceLT, Nat.reduceMul, Int.reduceLE, Int.reduceLT, Int.reduceEq, Int.reduceNe, wk4, laidS, keepS, h0, Try.results22, hb]) | (refine r_gcasesM (fun hp hb => ?_) (fun hp hb => ?_) <;> simp only [↓wt, wu, wk0, wk1, wk2, wk3, Nat.reduceAdd, Nat.reduceEqDiff, Nat.reduceLeDiff, Nat.reduceLT, Nat.reduceMul, Int.reduceLE, Int.reduceLT, Int.reduceEq, Int.reduceNe, wk4, laidS, keepS, h0, Try.results22, hb]) | (refine r_gcasesB (fun hp hb => ?_) (fun hp hb => ?_) <;> simp only [↓wt, wu, wk0, wk1, wk2, wk3, Nat.reduceAdd, Nat.reduceEqDiff, Nat.reduceLeDiff, Nat.reduceLT, Nat.reduceMul, Int.reduceLE, Int.reduceLT, Int.reduceEq, Int.reduceNe, wk4, laidS, keepS, h0, Try.results22, hb]) | ((with_reducible refine And.intro ?_ ?_); omega) | fail)
    · exact .done (expR_nil (by rw [moveR, if_pos (.inl fun h => by have := h.1; omega)]))
    · exact .done (expR_nil (by rw [moveR, if_pos (.inl fun h => by have := h.2; omega)]))
    · exact .done (expR_nil (by rw [moveR, if_pos (.inr (by omega))]))
    · have ht : There c to := ⟨by omega, by omega⟩
      have hg : ¬ (¬ There c to ∨ w = to) := fun h => h.elim (fun h => h ht) (fun h => by omega)
      have q12 := there_nat h1 ht
      have e1 : IntKind.i64.wrap ((rowAt l w.toNat).o.getD to.toNat 0 + a) = (rowAt l w.toNat).o.getD to.toNat 0 + a := wrap_i64 (by omega) (by omega)
      refine icall_drop [] (rof_call' c l h1 w h2) ⟨arg_conf', arg_books, arg_c, trivial⟩ (.c _) ?_
      simp only [↓wt, wu, wk0, wk1, wk2, wk3, Nat.reduceAdd, Nat.reduceEqDiff, Nat.reduceLeDiff, Nat.reduceLT, Nat.reduceMul, Int.reduceLE, Int.reduceLT, Int.reduceEq, Int.reduceNe, wk4, laidS, keepS]
      refine r_casesD (fun h5 hb => ?_) (fun h5 hb => ?_) <;> simp only [↓wt, wu, wk0, wk1, wk2, wk3, Nat.reduceAdd, Nat.reduceEqDiff, Nat.reduceLeDiff, Nat.reduceLT, Nat.reduceMul, Int.reduceLE, Int.reduceLT, Int.reduceEq, Int.reduceNe, wk4, laidS, keepS, hb]
      · simp only [↓wt, wu, wk0, wk1, wk2, wk3, Nat.reduceAdd, Nat.reduceEqDiff, Nat.reduceLeDiff, Nat.reduceLT, Nat.reduceMul, Int.reduceLE, Int.reduceLT, Int.reduceEq, Int.reduceNe, wk4, laidS, keepS, Try.results22]
        exact .done (expR_nil (by rw [moveR, if_neg hg, if_neg (by omega), if_pos (by omega)]))
      simp only [↓wt, wu, wk0, wk1, wk2, wk3, Nat.reduceAdd, Nat.reduceEqDiff, Nat.reduceLeDiff, Nat.reduceLT, Nat.reduceMul, Int.reduceLE, Int.reduceLT, Int.reduceEq, Int.reduceNe, wk4, laidS, keepS, elem_R, RowV_eq, encI_eq, e1]
      repeat (refine And.intro (by omega) ?_)
      refine r_casesD (fun h6 hb => ?_) (fun h6 hb => ?_) <;> simp only [↓wt, wu, wk0, wk1, wk2, wk3, Nat.reduceAdd, Nat.reduceEqDiff, Nat.reduceLeDiff, Nat.reduceLT, Nat.reduceMul, Int.reduceLE, Int.reduceLT, Int.reduceEq, Int.reduceNe, wk4, laidS, keepS, hb]
      · simp only [↓wt, wu, wk0, wk1, wk2, wk3, Nat.reduceAdd, Nat.reduceEqDiff, Nat.reduceLeDiff, Nat.reduceLT, Nat.reduceMul, Int.reduceLE, Int.reduceLT, Int.reduceEq, Int.reduceNe, wk4, laidS, keepS, Try.results22]
        exact .done (expR_nil (by rw [moveR, if_neg hg, if_neg (by omega), if_neg (by omega), if_pos (by omega)]))
      by_cases hw0 : w.toNat = 0
      · refine icall_lend [] [] (rcopy0w_call l w.toNat hl q1 hw0) (by decide) trivial ⟨.inr ⟨weak_l, .l _ _ (pureR l)⟩, trivial⟩ (show 2 < 3 by decide) ⟨hd_I, hd_W (show 0 < 3 by decide), trivial⟩ ?_
        simp only [↓wt, wu, wk0, wk1, wk2, wk3, Nat.reduceAdd, Nat.reduceEqDiff, Nat.reduceLeDiff, Nat.reduceLT, Nat.reduceMul, Int.reduceLE, Int.reduceLT, Int.reduceEq, Int.reduceNe, wk4, laidS, keepS, rn_W, rnI, nblt, rn0, rnC, rnE, rnR, rnB, putAll, Nat.reduceSub, Nat.sub_zero, Nat.not_lt_zero, Nat.zero_sub, Nat.sub_self, rn_I, rn_B]
        refine draw_rule tabOk mixed [0, 0, 2, 0, 2, 0, 0, 0, 2, 0, 2, 0, 2, 2, 0, 0, 2, 1] [[], [], [0, 1], [0, 1, 2], [0, 1, 2, 3], [], [], [], [6, 7], [6, 7, 8], [6, 7, 8, 9], [], [6, 7, 8, 9, 10, 11], [6, 7, 8, 9, 10, 11, 12], [], [6, 7, 8, 9, 10, 11, 12, 13, 14], [0, 1, 2, 3, 4, 5, 6, 7, 8, 9, 10, 11, 12, 13, 14, 15], [0, 1, 2, 3, 4, 5, 6, 7, 8, 9, 10, 11, 12, 13, 14, 15, 16]] (by kernel_rfl) ?_
        simp only [↓wt, wu, wk0, wk1, wk2, wk3, Nat.reduceAdd, Nat.reduceEqDiff, Nat.reduceLeDiff, Nat.reduceLT, Nat.reduceMul, Int.reduceLE, Int.reduceLT, Int.reduceEq, Int.reduceNe, wk4, laidS, keepS, elem_W, rowsW_len]
        repeat (refine And.intro (by omega) ?_)
        simp only [↓wt, wu, wk0, wk1, wk2, wk3, Nat.reduceAdd, Nat.reduceEqDiff, Nat.reduceLeDiff, Nat.reduceLT, Nat.reduceMul, Int.reduceLE, Int.reduceLT, Int.reduceEq, Int.reduceNe, wk4, laidS, keepS, encI_eq, e1]
        repeat (refine And.intro (by omega) ?_)
        refine d_heavyX (by simp only [↓wt, wu, wk0, wk1, wk2, wk3, Nat.reduceAdd, Nat.reduceEqDiff, Nat.reduceLeDiff, Nat.reduceLT, Nat.reduceMul, Int.reduceLE, Int.reduceLT, Int.reduceEq, Int.reduceNe, wk4, laidS, keepS, set_W, Cell, List.length_set, List.length_map, encI_eq, mapI_set, e1]; (repeat (first | refine And.intro (by omega) ?_ | refine And.intro (pureB _) ?_ | refine And.intro (pureI _) ?_ | refine And.intro ⟨pureB _, pureB _⟩ ?_ | refine And.intro ⟨pureB _, pureI _⟩ ?_ | refine And.intro ⟨pureI _, pureB _⟩ ?_ | refine And.intro ⟨pureI _, pureI _⟩ ?_)); exact ⟨rfl, rfl⟩) ?_
        simp only [↓wt, wu, wk0, wk1, wk2, wk3, Nat.reduceAdd, Nat.reduceEqDiff, Nat.reduceLeDiff, Nat.reduceLT, Nat.reduceMul, Int.reduceLE, Int.reduceLT, Int.reduceEq, Int.reduceNe, wk4, laidS, keepS, Try.results22]
        have hs : rowsW l w.toNat 1 = (l.map RowV).set w.toNat (.g [.c (.int .i64 (rowAt l w.toNat).i), .c (.int .i64 (rowAt l w.toNat).u), .s 1 0 ((rowAt l w.toNat).o.set to.toNat ((rowAt l w.toNat).o.getD to.toNat 0 + a)).length]) := by rw [List.length_set]; rfl
        rw [hs]
        refine .step 1 ⟨bok_conf, bok_S rfl (by simp), trivial⟩ (fokR_ne (by decide)) (.done ?_)
        exact exp_setR (M0 := _) (a := 1) rfl rfl rfl (by rw [moveR, if_neg hg, if_neg (by omega), if_neg (by omega), if_neg (by omega)])
      · refine icall_lend [] [] (rcopyW_call l w.toNat hl q1 (by omega)) (by decide) trivial ⟨.inr ⟨weak_l, .l _ _ (pureR l)⟩, trivial⟩ (show 2 < 4 by decide) ⟨hd_W (show 3 < 4 by decide), hd_I, trivial⟩ ?_
        simp only [↓wt, wu, wk0, wk1, wk2, wk3, Nat.reduceAdd, Nat.reduceEqDiff, Nat.reduceLeDiff, Nat.reduceLT, Nat.reduceMul, Int.reduceLE, Int.reduceLT, Int.reduceEq, Int.reduceNe, wk4, laidS, keepS, rn_W, rnI, nblt, rn0, rnC, rnE, rnR, rnB, putAll, Nat.reduceSub, Nat.sub_zero, Nat.not_lt_zero, Nat.zero_sub, Nat.sub_self, rn_I, rn_B]
        refine draw_rule tabOk mixed [0, 0, 2, 0, 2, 0, 0, 0, 2, 0, 2, 0, 2, 2, 0, 0, 2, 1] [[], [], [0, 1], [0, 1, 2], [0, 1, 2, 3], [], [], [], [6, 7], [6, 7, 8], [6, 7, 8, 9], [], [6, 7, 8, 9, 10, 11], [6, 7, 8, 9, 10, 11, 12], [], [6, 7, 8, 9, 10, 11, 12, 13, 14], [0, 1, 2, 3, 4, 5, 6, 7, 8, 9, 10, 11, 12, 13, 14, 15], [0, 1, 2, 3, 4, 5, 6, 7, 8, 9, 10, 11, 12, 13, 14, 15, 16]] (by kernel_rfl) ?_
        simp only [↓wt, wu, wk0, wk1, wk2, wk3, Nat.reduceAdd, Nat.reduceEqDiff, Nat.reduceLeDiff, Nat.reduceLT, Nat.reduceMul, Int.reduceLE, Int.reduceLT, Int.reduceEq, Int.reduceNe, wk4, laidS, keepS, elem_W, rowsW_len]
        repeat (refine And.intro (by omega) ?_)
        simp only [↓wt, wu, wk0, wk1, wk2, wk3, Nat.reduceAdd, Nat.reduceEqDiff, Nat.reduceLeDiff, Nat.reduceLT, Nat.reduceMul, Int.reduceLE, Int.reduceLT, Int.reduceEq, Int.reduceNe, wk4, laidS, keepS, encI_eq, e1]
        repeat (refine And.intro (by omega) ?_)
        refine d_heavyX (by simp only [↓wt, wu, wk0, wk1, wk2, wk3, Nat.reduceAdd, Nat.reduceEqDiff, Nat.reduceLeDiff, Nat.reduceLT, Nat.reduceMul, Int.reduceLE, Int.reduceLT, Int.reduceEq, Int.reduceNe, wk4, laidS, keepS, set_W, Cell, List.length_set, List.length_map, encI_eq, mapI_set, e1]; (repeat (first | refine And.intro (by omega) ?_ | refine And.intro (pureB _) ?_ | refine And.intro (pureI _) ?_ | refine And.intro ⟨pureB _, pureB _⟩ ?_ | refine And.intro ⟨pureB _, pureI _⟩ ?_ | refine And.intro ⟨pureI _, pureB _⟩ ?_ | refine And.intro ⟨pureI _, pureI _⟩ ?_)); exact ⟨rfl, rfl⟩) ?_
        simp only [↓wt, wu, wk0, wk1, wk2, wk3, Nat.reduceAdd, Nat.reduceEqDiff, Nat.reduceLeDiff, Nat.reduceLT, Nat.reduceMul, Int.reduceLE, Int.reduceLT, Int.reduceEq, Int.reduceNe, wk4, laidS, keepS, Try.results22]
        have hs : rowsW l w.toNat 4 = (l.map RowV).set w.toNat (.g [.c (.int .i64 (rowAt l w.toNat).i), .c (.int .i64 (rowAt l w.toNat).u), .s 4 0 ((rowAt l w.toNat).o.set to.toNat ((rowAt l w.toNat).o.getD to.toNat 0 + a)).length]) := by rw [List.length_set]; rfl
        rw [hs]
        refine .step 4 ⟨bok_conf, bok_S rfl (by simp), trivial⟩ (fokR_ne (by decide)) (.done ?_)
        exact exp_setR (M0 := _) (a := 4) rfl rfl rfl (by rw [moveR, if_neg hg, if_neg (by omega), if_neg (by omega), if_neg (by omega)])
  · simp only [↓wt, wu, wk0, wk1, wk2, wk3, Nat.reduceAdd, Nat.reduceEqDiff, Nat.reduceLeDiff, Nat.reduceLT, Nat.reduceMul, Int.reduceLE, Int.reduceLT, Int.reduceEq, Int.reduceNe, wk4, laidS, keepS, h0, Try.results22]
    refine .done (expR_nil ?_)
    by_cases hg : ¬ There c to ∨ w = to
    · rw [moveR, if_pos hg]
    · rw [moveR, if_neg hg, if_pos (by omega), h0]
  · simp only [↓wt, wu, wk0, wk1, wk2, wk3, Nat.reduceAdd, Nat.reduceEqDiff, Nat.reduceLeDiff, Nat.reduceLT, Nat.reduceMul, Int.reduceLE, Int.reduceLT, Int.reduceEq, Int.reduceNe, wk4, laidS, keepS, h0]
    repeat' (first | (refine r_casesD (fun hp hb => ?_) (fun hp hb => ?_) <;> simp only [↓wt, wu, wk0, wk1, wk2, wk3, Nat.reduceAdd, Nat.reduceEqDiff, Nat.reduceLeDiff, Nat.reduceLT, Nat.reduceMul, Int.reduceLE, Int.reduceLT, Int.reduceEq, Int.reduceNe, wk4, laidS, keepS, h0, Try.results22, hb]) | (refine r_casesN (fun hp hb => ?_) (fun hp hb => ?_) <;> simp only [↓wt, wu, wk0, wk1, wk2, wk3, Nat.reduceAdd, Nat.reduceEqDiff, Nat.reduceLeDiff, Nat.reduceLT, Nat.reduceMul, Int.reduceLE, Int.reduceLT, Int.reduceEq, Int.reduceNe, wk4, laidS, keepS, h0, Try.results22, hb]) | (refine r_casesM (fun hp hb => ?_) (fun hp hb => ?_) <;> simp only [↓wt, wu, wk0, wk1, wk2, wk3, Nat.reduceAdd, Nat.reduceEqDiff, Nat.reduceLeDiff, Nat.reduceLT, Nat.reduceMul, Int.reduceLE, Int.reduceLT, Int.reduceEq, Int.reduceNe, wk4, laidS, keepS, h0, Try.results22, hb]) | (refine r_casesB (fun hp hb => ?_) (fun hp hb => ?_) <;> simp only [↓wt, wu, wk0, wk1, wk2, wk3, Nat.reduceAdd, Nat.reduceEqDiff, Nat.reduceLeDiff, Nat.reduceLT, Nat.reduceMul, Int.reduceLE, Int.reduceLT, Int.reduceEq, Int.reduceNe, wk4, laidS, keepS, h0, Try.results22, hb]) | (refine r_gcasesD (fun hp hb => ?_) (fun hp hb => ?_) <;> simp only [↓wt, wu, wk0, wk1, wk2, wk3, Nat.reduceAdd, Nat.reduceEqDiff, Nat.reduceLeDiff, Nat.reduceLT, Nat.reduceMul, Int.reduceLE, Int.reduceLT, Int.reduceEq, Int.reduceNe, wk4, laidS, keepS, h0, Try.results22, hb]) | (refine r_gcasesN (fun hp hb => ?_) (fun hp hb => ?_) <;> simp only [↓wt, wu, wk0, wk1, wk2, wk3, Nat.reduceAdd, Nat.reduceEqDiff, Nat.reduceLeDiff, Nat.reduceLT, Nat.reduceMul, Int.reduceLE, Int.reduceLT, Int.reduceEq, Int.reduceNe, wk4, laidS, keepS, h0, Try.results22, hb]) | (refine r_gcasesM (fun hp hb => ?_) (fun hp hb => ?_) <;> simp only [↓wt, wu, wk0, wk1, wk2, wk3, Nat.reduceAdd, Nat.reduceEqDiff, Nat.reduceLeDiff, Nat.reduceLT, Nat.reduceMul, Int.reduceLE, Int.reduceLT, Int.reduceEq, Int.reduceNe, wk4, laidS, keepS, h0, Try.results22, hb]) | (refine r_gcasesB (fun hp hb => ?_) (fun hp hb => ?_) <;> simp only [↓wt, wu, wk0, wk1, wk2, wk3, Nat.reduceAdd, Nat.reduceEqDiff, Nat.reduceLeDiff, Nat.reduceLT, Nat.reduceMul, Int.reduceLE, Int.reduceLT, Int.reduceEq, Int.reduceNe, wk4, laidS, keepS, h0, Try.results22, hb]) | ((with_reducible refine And.intro ?_ ?_); omega) | fail)
    · exact .done (expR_nil (by rw [moveR, if_pos (.inl fun h => by have := h.1; omega)]))
    · exact .done (expR_nil (by rw [moveR, if_pos (.inl fun h => by have := h.2; omega)]))
    · exact .done (expR_nil (by rw [moveR, if_pos (.inr (by omega))]))
    · have ht : There c to := ⟨by omega, by omega⟩
      have hg : ¬ (¬ There c to ∨ w = to) := fun h => h.elim (fun h => h ht) (fun h => by omega)
      exact .done (expR_nil (by rw [moveR, if_neg hg, if_pos (by omega), h0]))
end Go.Ab
