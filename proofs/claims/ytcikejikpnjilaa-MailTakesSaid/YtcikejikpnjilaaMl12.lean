/- Mail: the same messages? -/
import Derived.Test.YtcikejikpnjilaaTCl3
import Derived.Test.YtcikejikpnjilaaTCl2
import Derived.Test.YtcikejikpnjilaaTRt12
set_option linter.unusedSimpArgs false
set_option linter.unusedVariables false
set_option linter.constructorNameAsVariable false
set_option maxRecDepth 100000
namespace Go.Ab
open Go Go.Proofs Go.RowKit

theorem req_neq {M : Mem} {K : AV → Mem → Prop} {a b e c d f : Int} : aggBinK Try.prog 30 M [.c (.int .i64 a), .c (.int .i64 b), .c (.int .i64 e)] [.c (.int .i64 c), .c (.int .i64 d), .c (.int .i64 f)] K .neq = K (.c (.bool (!decide (a = c ∧ b = d ∧ e = f)))) M :=
  agg_neq eqi_request (by decide) (by kernel_rfl) (l := [a, b, e]) (m := [c, d, f]) rfl rfl (by simp)
theorem looks_ext {a b : List (Int × Int)} (hl : a.length = b.length) (h : ∀ k, k < a.length → lookAt a k = lookAt b k) : a = b := by
  refine List.ext_getElem hl fun k h1 h2 => ?_
  have := h k h1
  rwa [lookAt, lookAt, List.getD_eq_getElem?_getD, List.getD_eq_getElem?_getD, List.getElem?_eq_getElem h1, List.getElem?_eq_getElem h2] at this
set_option maxHeartbeats 8000000 in
theorem mrsame_call (a b : MailD) (ha : Lens a.r) (hl : a.e.length < 1000000000) : PCall Try.prog 9 [MailV a, MailV b] (.c (.bool (decide (a = b)))) := by
  refine pcall_body tabOk Try.func9 rfl rfl (by rw [Try.ntmps9]; simp) ?_
  simp only [Try.ntmps9, MailV]
  simp only [↓wt, wu, wk0, wk1, wk2, wk3, Nat.reduceAdd, Nat.reduceEqDiff, Nat.reduceLeDiff, Nat.reduceLT, Nat.reduceMul, Int.reduceLE, Int.reduceLT, Int.reduceEq, Int.reduceNe, wk4, laidS, keepS]
  refine r_gcasesN (fun h1 hb => ?_) (fun h1 hb => ?_) <;> simp only [↓wt, wu, wk0, wk1, wk2, wk3, Nat.reduceAdd, Nat.reduceEqDiff, Nat.reduceLeDiff, Nat.reduceLT, Nat.reduceMul, Int.reduceLE, Int.reduceLT, Int.reduceEq, Int.reduceNe, wk4, laidS, keepS, hb, Try.results9]
  rotate_left
  · exact exp_bF (p := a = b) fun h => h1 (by rw [h])
  refine r_gcasesN (fun h2 hb => ?_) (fun h2 hb => ?_) <;> simp only [↓wt, wu, wk0, wk1, wk2, wk3, Nat.reduceAdd, Nat.reduceEqDiff, Nat.reduceLeDiff, Nat.reduceLT, Nat.reduceMul, Int.reduceLE, Int.reduceLT, Int.reduceEq, Int.reduceNe, wk4, laidS, keepS, hb, Try.results9]
  rotate_left
  · exact exp_bF (p := a = b) fun h => h2 (by rw [h])
  refine r_gcasesN (fun h3 hb => ?_) (fun h3 hb => ?_) <;> simp only [↓wt, wu, wk0, wk1, wk2, wk3, Nat.reduceAdd, Nat.reduceEqDiff, Nat.reduceLeDiff, Nat.reduceLT, Nat.reduceMul, Int.reduceLE, Int.reduceLT, Int.reduceEq, Int.reduceNe, wk4, laidS, keepS, hb, Try.results9]
  rotate_left
  · exact exp_bF (p := a = b) fun h => h3 (by rw [h])
  refine icall_drop [] (rsameB_call a.r b.r ha) ⟨arg_books, arg_books, trivial⟩ (.c _) ?_
  simp only [↓wt, wu, wk0, wk1, wk2, wk3, Nat.reduceAdd, Nat.reduceEqDiff, Nat.reduceLeDiff, Nat.reduceLT, Nat.reduceMul, Int.reduceLE, Int.reduceLT, Int.reduceEq, Int.reduceNe, wk4, laidS, keepS]
  refine r_gcasesN (fun h4 hb => ?_) (fun h4 hb => ?_) <;> simp only [↓wt, wu, wk0, wk1, wk2, wk3, Nat.reduceAdd, Nat.reduceEqDiff, Nat.reduceLeDiff, Nat.reduceLT, Nat.reduceMul, Int.reduceLE, Int.reduceLT, Int.reduceEq, Int.reduceNe, wk4, laidS, keepS, hb, req_neq, Try.results9]
  rotate_left
  · exact exp_bF (p := a = b) fun h => h4 (by rw [h])
  refine r_gcasesN (fun h5 hb => ?_) (fun h5 hb => ?_) <;> simp only [↓wt, wu, wk0, wk1, wk2, wk3, Nat.reduceAdd, Nat.reduceEqDiff, Nat.reduceLeDiff, Nat.reduceLT, Nat.reduceMul, Int.reduceLE, Int.reduceLT, Int.reduceEq, Int.reduceNe, wk4, laidS, keepS, hb, Try.results9]
  rotate_left
  · exact exp_bF (p := a = b) fun h => h5 (by rw [h]; exact ⟨rfl, rfl, rfl⟩)
  refine r_gcasesN (fun h6 hb => ?_) (fun h6 hb => ?_) <;> simp only [↓wt, wu, wk0, wk1, wk2, wk3, Nat.reduceAdd, Nat.reduceEqDiff, Nat.reduceLeDiff, Nat.reduceLT, Nat.reduceMul, Int.reduceLE, Int.reduceLT, Int.reduceEq, Int.reduceNe, wk4, laidS, keepS, hb, look_neq, Try.results9]
  rotate_left
  · exact exp_bF (p := a = b) fun h => h6 (by rw [h])
  refine r_gcasesN (fun h7 hb => ?_) (fun h7 hb => ?_) <;> simp only [↓wt, wu, wk0, wk1, wk2, wk3, Nat.reduceAdd, Nat.reduceEqDiff, Nat.reduceLeDiff, Nat.reduceLT, Nat.reduceMul, Int.reduceLE, Int.reduceLT, Int.reduceEq, Int.reduceNe, wk4, laidS, keepS, hb, Try.results9]
  rotate_left
  · exact exp_bF (p := a = b) fun h => h7 (by rw [h]; exact ⟨rfl, rfl⟩)
  refine r_casesN (fun h8 hb => ?_) (fun h8 hb => ?_) <;> simp only [↓wt, wu, wk0, wk1, wk2, wk3, Nat.reduceAdd, Nat.reduceEqDiff, Nat.reduceLeDiff, Nat.reduceLT, Nat.reduceMul, Int.reduceLE, Int.reduceLT, Int.reduceEq, Int.reduceNe, wk4, laidS, keepS, hb, Try.results9]
  rotate_left
  · exact exp_bF (p := a = b) fun h => h8 (by rw [h])
  have h8 : a.e.length = b.e.length := by omega
  refine loop_ruleC tabOk [2, 3] (fun k : Nat => [(5, .c (.int .i64 k))]) (fun k => k ≤ a.e.length ∧ ∀ j, j < k → lookAt a.e j = lookAt b.e j) (fun k => a.e.length - k) 0 ⟨by omega, fun j h => by omega⟩ ?_ ?_
  · simp only [↓wt, wu, wk0, wk1, wk2, wk3, wkf, Nat.reduceAdd, Nat.reduceEqDiff, Nat.reduceLeDiff, Nat.reduceLT, Nat.reduceMul, Int.reduceLE, Int.reduceLT, Int.reduceEq, Int.reduceNe, wk4, laidS, keepS, underL_R, underL_K]
    try trivial
  · rintro k ⟨hk, hG⟩
    have e3 := wi_succ (k := k) (by omega)
    simp only [↓wt, wu, wk0, wk1, wk2, wk3, Nat.reduceAdd, Nat.reduceEqDiff, Nat.reduceLeDiff, Nat.reduceLT, Nat.reduceMul, Int.reduceLE, Int.reduceLT, Int.reduceEq, Int.reduceNe, wk4, laidS, keepS]
    repeat' (first | (refine r_casesD (fun hp hb => ?_) (fun hp hb => ?_) <;> simp only [↓wt, wu, wk0, wk1, wk2, wk3, Nat.reduceAdd, Nat.reduceEqDiff, Nat.reduceLeDiff, Nat.reduceLT, Nat.reduceMul, Int.reduceLE, Int.reduceLT, Int.reduceEq, Int.reduceNe, wk4, laidS, keepS, hb]) | (refine r_casesN (fun hp hb => ?_) (fun hp hb => ?_) <;> simp only [↓wt, wu, wk0, wk1, wk2, wk3, Nat.reduceAdd, Nat.reduceEqDiff, Nat.reduceLeDiff, Nat.reduceLT, Nat.reduceMul, Int.reduceLE, Int.reduceLT, Int.reduceEq, Int.reduceNe, wk4, laidS, keepS, hb]) | (refine r_casesM (fun hp hb => ?_) (fun hp hb => ?_) <;> simp only [↓wt, wu, wk0, wk1, wk2, wk3, Nat.reduceAdd, Nat.reduceEqDiff, Nat.reduceLeDiff, Nat.reduceLT, Nat.reduceMul, Int.reduceLE, Int.reduceLT, Int.reduceEq, Int.reduceNe, wk4, laidS, keepS, hb]) | (refine r_casesB (fun hp hb => ?_) (fun hp hb => ?_) <;> simp only [↓wt, wu, wk0, wk1, wk2, wk3, Nat.reduceAdd, Nat.reduceEqDiff, Nat.reduceLeDiff, Nat.reduceLT, Nat.reduceMul, Int.reduceLE, Int.reduceLT, Int.reduceEq, Int.reduceNe, wk4, laidS, keepS, hb]) | (refine r_gcasesD (fun hp hb => ?_) (fun hp hb => ?_) <;> simp only [↓wt, wu, wk0, wk1, wk2, wk3, Nat.reduceAdd, Nat.reduceEqDiff, Nat.reduceLeDiff, Nat.reduceLT, Nat.reduceMul, Int.reduceLE, Int.reduceLT, Int.reduceEq, Int.reduceNe, wk4, laidS, keepS, hb]) | (refine r_gcasesN (fun hp hb => ?_) (fun hp hb => ?_) <;> simp only [↓wt, wu, wk0, wk1, wk2, wk3, Nat.reduceAdd, Nat.reduceEqDiff, Nat.reduceLeDiff, Nat.reduceLT, Nat.reduceMul, Int.reduceLE, Int.reduceLT, Int.reduceEq, Int.reduceNe, wk4, laidS, keepS, hb]) | (refine r_gcasesM (fun hp hb => ?_) (fun hp hb => ?_) <;> simp only [↓wt, wu, wk0, wk1, wk2, wk3, Nat.reduceAdd, Nat.reduceEqDiff, Nat.reduceLeDiff, Nat.reduceLT, Nat.reduceMul, Int.reduceLE, Int.reduceLT, Int.reduceEq, Int.reduceNe, wk4, laidS, keepS, hb]) | (refine r_gcasesB (fun hp hb => ?_) (fun hp hb => ?_) <;> simp only [↓wt, wu, wk0, wk1, wk2, wk3, Nat.reduceAdd, Nat.reduceEqDiff, Nat.reduceLeDiff, Nat.reduceLT, Nat.reduceMul, Int.reduceLE, Int.reduceLT, Int.reduceEq, Int.reduceNe, wk4, laidS, keepS, hb]) | ((with_reducible refine And.intro ?_ ?_); omega) | fail)
    · have hkl : k < a.e.length := by omega
      refine draw_rule tabOk mixed [0, 2, 0, 2, 2, 0, 2, 0, 2, 2, 0] [[], [0], [], [0, 1, 2], [0, 1, 2, 3], [], [5], [], [5, 6, 7], [5, 6, 7, 8], [0, 1, 2, 3, 4, 5, 6, 7, 8, 9]] (by kernel_rfl) ?_
      simp only [↓wt, wu, wk0, wk1, wk2, wk3, Nat.reduceAdd, Nat.reduceEqDiff, Nat.reduceLeDiff, Nat.reduceLT, Nat.reduceMul, Int.reduceLE, Int.reduceLT, Int.reduceEq, Int.reduceNe, wk4, laidS, keepS, elem_K, LookV_eq, look_neq]
      repeat (refine And.intro (by omega) ?_)
      by_cases hq : (lookAt a.e k).1 = (lookAt b.e k).1 ∧ (lookAt a.e k).2 = (lookAt b.e k).2
      · have hb := decide_eq_true hq
        simp only [↓wt, wu, wk0, wk1, wk2, wk3, Nat.reduceAdd, Nat.reduceEqDiff, Nat.reduceLeDiff, Nat.reduceLT, Nat.reduceMul, Int.reduceLE, Int.reduceLT, Int.reduceEq, Int.reduceNe, wk4, laidS, keepS, hb, e3]
        refine ⟨k + 1, ⟨by omega, fun j hj => ?_⟩, by omega, ?_⟩
        · rcases Nat.lt_or_ge j k with h | h
          · exact hG j h
          · have : j = k := by omega
            subst this; exact Prod.ext hq.1 hq.2
        · simp only [↓wt, wu, wk0, wk1, wk2, wk3, wkf, Nat.reduceAdd, Nat.reduceEqDiff, Nat.reduceLeDiff, Nat.reduceLT, Nat.reduceMul, Int.reduceLE, Int.reduceLT, Int.reduceEq, Int.reduceNe, wk4, laidS, keepS, underL_R, underL_K, e3]
          try trivial
      · have hb := decide_eq_false hq
        simp only [↓wt, wu, wk0, wk1, wk2, wk3, Nat.reduceAdd, Nat.reduceEqDiff, Nat.reduceLeDiff, Nat.reduceLT, Nat.reduceMul, Int.reduceLE, Int.reduceLT, Int.reduceEq, Int.reduceNe, wk4, laidS, keepS, hb, Try.results9]
        exact exp_bF (p := a = b) fun h => hq (by rw [h]; exact ⟨rfl, rfl⟩)
    · simp only [↓wt, wu, wk0, wk1, wk2, wk3, Nat.reduceAdd, Nat.reduceEqDiff, Nat.reduceLeDiff, Nat.reduceLT, Nat.reduceMul, Int.reduceLE, Int.reduceLT, Int.reduceEq, Int.reduceNe, wk4, laidS, keepS, Try.results9]
      refine exp_bT (p := a = b) ?_
      have h9 := looks_ext h8 fun j hj => hG j (by omega)
      obtain ⟨a1, a2, a3, a4, a5, a6, a7, a8, a9, a10, a11⟩ := a
      obtain ⟨b1, b2, b3, b4, b5, b6, b7, b8, b9, b10, b11⟩ := b
      dsimp only at *
      obtain ⟨g1, g2, g3⟩ := h5
      obtain ⟨g4, g5⟩ := h7
      subst h1 h2 h3 h4 g1 g2 g3 h6 g4 g5 h9
      rfl
end Go.Ab
