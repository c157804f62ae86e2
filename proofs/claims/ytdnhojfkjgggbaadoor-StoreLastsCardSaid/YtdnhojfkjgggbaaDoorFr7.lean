/- Frames: all that bytes begin with: the document's; the same lists? -/
import Derived.Test.YtdnhojfkjgggbaaDoorFr6
set_option linter.unusedSimpArgs false
set_option linter.unusedVariables false
set_option linter.constructorNameAsVariable false
set_option maxRecDepth 100000
namespace Go.Ab
open Go Go.Proofs Go.RowKit

theorem one_if {r : List UInt8} (h1 : (txT r).2.2 = true) (h2 : (frL (txT r).1).length ≤ r.length) (h3 : frL (txT r).1 = r.take (frL (txT r).1).length) : oneT r = ((txT r).1, (frL (txT r).1).length) := by
  have hs : (txT r).1.length < 18446744073709551616 := by
    unfold txT
    split
    · have := tq_lt r
      simp only [List.length_take]; omega
    · simp
  have := oneT_put (r := r.drop (frL (txT r).1).length) hs
  rw [← show r = frL (txT r).1 ++ r.drop (frL (txT r).1).length by conv => lhs; rw [← List.take_append_drop (frL (txT r).1).length r, ← h3]] at this
  exact this
theorem one_no {r : List UInt8} (h : ¬ ((txT r).2.2 = true ∧ (frL (txT r).1).length ≤ r.length ∧ frL (txT r).1 = r.take (frL (txT r).1).length)) : (oneT r).2 = 0 := by
  refine Classical.byContradiction fun ho => h ?_
  obtain ⟨h1, h2⟩ := oneT_of ho
  have e : txT r = ((oneT r).1, sum4 (textL (oneT r).1) ++ r.drop (oneT r).2, true) := by
    have := txT_put (r := sum4 (textL (oneT r).1) ++ r.drop (oneT r).2) (oneT_small r)
    rw [← this]
    congr 1
    rw [← List.append_assoc]; exact h1
  have hl := congrArg List.length h1
  rw [List.length_append] at hl
  have h5 := List.take_left (l₁ := frL (oneT r).1) (l₂ := r.drop (oneT r).2)
  rw [← h1] at h5
  rw [e]
  exact ⟨rfl, by show (frL (oneT r).1).length ≤ _; omega, h5.symm⟩
set_option maxHeartbeats 4000000 in
theorem frscan_call (b : List UInt8) (hl : b.length ≤ 1000000) : PCall Tryd.prog 11 [Bs b] (.t [.l 1 ((scP b).map Bs), .c (.int .i64 (frs (scP b)).length)]) := by
  refine pcall_body tabOk Tryd.func11 rfl rfl (by rw [Tryd.ntmps11]; simp) ?_
  simp only [Tryd.ntmps11, Bs]
  simp only [↓wt, wu, wk0, wk1, wk2, wk3, Nat.reduceAdd, Nat.reduceEqDiff, Nat.reduceLeDiff, Nat.reduceLT, Nat.reduceMul, Int.reduceLE, Int.reduceLT, Int.reduceEq, Int.reduceNe, wk4, laidS, keepS]
  refine adopt_rule 4 22 1 rfl ?_
  simp only [↓wt, wu, wk0, wk1, wk2, wk3, Nat.reduceAdd, Nat.reduceEqDiff, Nat.reduceLeDiff, Nat.reduceLT, Nat.reduceMul, Int.reduceLE, Int.reduceLT, Int.reduceEq, Int.reduceNe, wk4, laidS, keepS]
  refine loop_ruleG tabOk [0] (fun l : List (List UInt8) => [(4, .s 0 0 l.length), (5, .c (.int .i64 (frs l).length))]) (fun l => ⟨[(0, ⟨22, 1, l.map Bs⟩)], 1⟩) (ScG b) (fun l => b.length - (frs l).length) [] ⟨by simp [frs], fun p hp => by cases hp⟩ (fun _ => Nat.le_refl _) ?_ ?_
  · simp only [↓wt, wu, wk0, wk1, wk2, wk3, wkf, Nat.reduceAdd, Nat.reduceEqDiff, Nat.reduceLeDiff, Nat.reduceLT, Nat.reduceMul, Int.reduceLE, Int.reduceLT, Int.reduceEq, Int.reduceNe, wk4, laidS, keepS, Bs, underL_Bs, frs]
    try trivial
  · intro l hG
    have hle := hG.le
    have hrl : (b.drop (frs l).length).length = b.length - (frs l).length := List.length_drop
    have m1 := frtxt_call (b.drop (frs l).length) (by omega)
    have hG2 := hG.step
    have hG3 := hG.done
    have hone := one_if (r := b.drop (frs l).length)
    have hno := one_no (r := b.drop (frs l).length)
    have hsm : (txT (b.drop (frs l).length)).1.length ≤ 1000000 := by
      unfold txT
      split
      · have := tq_len (b.drop (frs l).length)
        simp only [List.length_take]; omega
      · simp
    simp only [↓wt, wu, wk0, wk1, wk2, wk3, Nat.reduceAdd, Nat.reduceEqDiff, Nat.reduceLeDiff, Nat.reduceLT, Nat.reduceMul, Int.reduceLE, Int.reduceLT, Int.reduceEq, Int.reduceNe, wk4, laidS, keepS, Bs]
    refine ⟨by omega, by omega, ?_⟩
    refine icall_drop [] m1 ⟨arg_l (pureB _), trivial⟩ okR_txt ?_
    generalize hr : b.drop (frs l).length = r at *
    generalize hp : (txT r).1 = p at *
    cases ho : (txT r).2.2 with
    | false =>
      simp only [↓wt, wu, wk0, wk1, wk2, wk3, Nat.reduceAdd, Nat.reduceEqDiff, Nat.reduceLeDiff, Nat.reduceLT, Nat.reduceMul, Int.reduceLE, Int.reduceLT, Int.reduceEq, Int.reduceNe, wk4, laidS, keepS, Bs, Str, ho, Tryd.results11]
      exact exp_scan (hG3 (hno fun h => by rw [ho] at h; cases h.1)) rfl rfl rfl
    | true =>
      have m2 := frput_call [] p (by simp) hsm
      rw [List.nil_append] at m2
      have hfl := frL_len p
      have hpl := putL_len10 (n := p.length) (by omega)
      have e1 : IntKind.i64.wrap ((b.length : Int) - ((frs l).length : Int)) = ((b.length - (frs l).length : Nat) : Int) := by rw [wrap_i64 (by omega) (by omega)]; omega
      have e2 : IntKind.i64.wrap (((frs l).length : Int) + ((frL p).length : Int)) = (((frs l).length + (frL p).length : Nat) : Int) := by rw [wrap_i64 (by omega) (by omega)]; omega
      simp only [↓wt, wu, wk0, wk1, wk2, wk3, Nat.reduceAdd, Nat.reduceEqDiff, Nat.reduceLeDiff, Nat.reduceLT, Nat.reduceMul, Int.reduceLE, Int.reduceLT, Int.reduceEq, Int.reduceNe, wk4, laidS, keepS, Bs, Str, ho]
      refine icall_drop [] m2 ⟨arg_nil, arg_l (pureB _), trivial⟩ okR_Bs ?_
      simp only [↓wt, wu, wk0, wk1, wk2, wk3, Nat.reduceAdd, Nat.reduceEqDiff, Nat.reduceLeDiff, Nat.reduceLT, Nat.reduceMul, Int.reduceLE, Int.reduceLT, Int.reduceEq, Int.reduceNe, wk4, laidS, keepS, Bs]
      by_cases h2 : (frL p).length ≤ r.length
      rotate_left
      · have hd : decide (((frL p).length : Int) > ((b.length - (frs l).length : Nat) : Int)) = true := decide_eq_true (by omega)
        refine draw_rule tabOk mixed [0, 0, 0, 0, 0, 0, 0, 0, 0, 0, 0, 0, 0, 0, 0, 0, 0, 0, 0, 0] [[], [0], [], [2], [], [2, 3, 4], [0, 1, 2, 3, 4, 5], [0, 1, 2, 3, 4, 5, 6], [0, 1, 2, 3, 4, 5, 6, 7], [0, 1, 2, 3, 4, 5, 6, 7, 8], [0, 1, 2, 3, 4, 5, 6, 7], [0, 1, 2, 3, 4, 5, 6, 7], [0, 1, 2, 3, 4, 5, 6, 7], [0, 1, 2, 3, 4, 5, 6, 7], [0, 1, 2, 3, 4, 5, 6, 7, 13], [0, 1, 2, 3, 4, 5, 6, 7, 12, 13, 14], [0, 1, 2, 3, 4, 5, 6, 7, 10, 11, 12, 13, 14, 15], [0, 1, 2, 3, 4, 5, 6, 7, 10, 11, 12, 13, 14, 15, 16], [0, 1, 2, 3, 4, 5, 6, 7, 8, 9, 10, 11, 12, 13, 14, 15, 16, 17], [0, 1, 2, 3, 4, 5, 6, 7, 8, 9, 10, 11, 12, 13, 14, 15, 16, 17, 18]] (by kernel_rfl) ?_
        simp only [↓wt, wu, wk0, wk1, wk2, wk3, Nat.reduceAdd, Nat.reduceEqDiff, Nat.reduceLeDiff, Nat.reduceLT, Nat.reduceMul, Int.reduceLE, Int.reduceLT, Int.reduceEq, Int.reduceNe, wk4, laidS, keepS, e1, hd, Tryd.results11]
        exact exp_scan (hG3 (hno fun h => h2 h.2.1)) rfl rfl rfl
      · have hd : decide (((frL p).length : Int) > ((b.length - (frs l).length : Nat) : Int)) = false := decide_eq_false (by omega)
        refine draw_rule tabOk mixed [0, 0, 0, 0, 0, 0, 0, 0, 0, 0, 0, 0, 0, 0, 0, 0, 0, 0, 0, 0] [[], [0], [], [2], [], [2, 3, 4], [0, 1, 2, 3, 4, 5], [0, 1, 2, 3, 4, 5, 6], [0, 1, 2, 3, 4, 5, 6, 7], [0, 1, 2, 3, 4, 5, 6, 7, 8], [0, 1, 2, 3, 4, 5, 6, 7], [0, 1, 2, 3, 4, 5, 6, 7], [0, 1, 2, 3, 4, 5, 6, 7], [0, 1, 2, 3, 4, 5, 6, 7], [0, 1, 2, 3, 4, 5, 6, 7, 13], [0, 1, 2, 3, 4, 5, 6, 7, 12, 13, 14], [0, 1, 2, 3, 4, 5, 6, 7, 10, 11, 12, 13, 14, 15], [0, 1, 2, 3, 4, 5, 6, 7, 10, 11, 12, 13, 14, 15, 16], [0, 1, 2, 3, 4, 5, 6, 7, 8, 9, 10, 11, 12, 13, 14, 15, 16, 17], [0, 1, 2, 3, 4, 5, 6, 7, 8, 9, 10, 11, 12, 13, 14, 15, 16, 17, 18]] (by kernel_rfl) ?_
        simp only [↓wt, wu, wk0, wk1, wk2, wk3, Nat.reduceAdd, Nat.reduceEqDiff, Nat.reduceLeDiff, Nat.reduceLT, Nat.reduceMul, Int.reduceLE, Int.reduceLT, Int.reduceEq, Int.reduceNe, wk4, laidS, keepS, e1, e2, hd]
        refine ⟨by omega, by omega, by omega, ?_⟩
        rw [Nat.add_sub_cancel_left, hr]
        by_cases h3 : frL p = r.take (frL p).length
        · have hb : (frL p == r.take (frL p).length) = true := beq_iff_eq.2 h3
          have h1 := hone ho h2 h3
          obtain ⟨k1, k2⟩ := hG2 (by rw [h1]; show (frL p).length ≠ 0; omega)
          rw [h1] at k1 k2
          dsimp only at k1 k2
          have k3 := k1.le
          have e3 : (((frs l).length + (frL p).length : Nat) : Int) = ((frs (l ++ [p])).length : Int) := by rw [k2]
          simp only [↓wt, wu, wk0, wk1, wk2, wk3, Nat.reduceAdd, Nat.reduceEqDiff, Nat.reduceLeDiff, Nat.reduceLT, Nat.reduceMul, Int.reduceLE, Int.reduceLT, Int.reduceEq, Int.reduceNe, wk4, laidS, keepS, hb, e2, Cell]
          refine ⟨by omega, l ++ [p], k1, by omega, ?_⟩
          simp only [↓wt, wu, wk0, wk1, wk2, wk3, wkf, Nat.reduceAdd, Nat.reduceEqDiff, Nat.reduceLeDiff, Nat.reduceLT, Nat.reduceMul, Int.reduceLE, Int.reduceLT, Int.reduceEq, Int.reduceNe, wk4, laidS, keepS, Bs, underL_Bs, e2, e3, List.length_append, List.map_append, underL_append]
        · have hb : (frL p == r.take (frL p).length) = false := beq_eq_false_iff_ne.2 h3
          simp only [↓wt, wu, wk0, wk1, wk2, wk3, Nat.reduceAdd, Nat.reduceEqDiff, Nat.reduceLeDiff, Nat.reduceLT, Nat.reduceMul, Int.reduceLE, Int.reduceLT, Int.reduceEq, Int.reduceNe, wk4, laidS, keepS, hb, Tryd.results11]
          exact exp_scan (hG3 (hno fun h => h3 h.2.2)) rfl rfl rfl
/-- The same lists? -/
theorem bs_ext {a b : List (List UInt8)} (hl : a.length = b.length) (h : ∀ k, k < a.length → a.getD k [] = b.getD k []) : a = b := by
  refine List.ext_getElem hl fun k h1 h2 => ?_
  have := h k h1
  rwa [List.getD_eq_getElem?_getD, List.getD_eq_getElem?_getD, List.getElem?_eq_getElem h1, List.getElem?_eq_getElem h2] at this
set_option maxHeartbeats 2000000 in
theorem frsame_call (a b : List (List UInt8)) (ha : a.length ≤ 1000000000) : PCall Tryd.prog 12 [.l 1 (a.map Bs), .l 1 (b.map Bs)] (.c (.bool (decide (a = b)))) := by
  refine pcall_body tabOk Tryd.func12 rfl rfl (by rw [Tryd.ntmps12]; simp) ?_
  simp only [Tryd.ntmps12]
  simp only [↓wt, wu, wk0, wk1, wk2, wk3, Nat.reduceAdd, Nat.reduceEqDiff, Nat.reduceLeDiff, Nat.reduceLT, Nat.reduceMul, Int.reduceLE, Int.reduceLT, Int.reduceEq, Int.reduceNe, wk4, laidS, keepS]
  refine r_casesN (fun h8 hb => ?_) (fun h8 hb => ?_) <;> simp only [↓wt, wu, wk0, wk1, wk2, wk3, Nat.reduceAdd, Nat.reduceEqDiff, Nat.reduceLeDiff, Nat.reduceLT, Nat.reduceMul, Int.reduceLE, Int.reduceLT, Int.reduceEq, Int.reduceNe, wk4, laidS, keepS, hb, Tryd.results12]
  rotate_left
  · exact exp_bF (p := a = b) fun h => h8 (by rw [h])
  have h8 : a.length = b.length := by omega
  refine loop_ruleC tabOk [0, 1] (fun k : Nat => [(5, .c (.int .i64 k))]) (fun k => k ≤ a.length ∧ ∀ j, j < k → a.getD j [] = b.getD j []) (fun k => a.length - k) 0 ⟨by omega, fun j h => by omega⟩ ?_ ?_
  · simp only [↓wt, wu, wk0, wk1, wk2, wk3, wkf, Nat.reduceAdd, Nat.reduceEqDiff, Nat.reduceLeDiff, Nat.reduceLT, Nat.reduceMul, Int.reduceLE, Int.reduceLT, Int.reduceEq, Int.reduceNe, wk4, laidS, keepS, underL_Bs]
    try trivial
  · rintro k ⟨hk, hG⟩
    have e3 := wsucc (k := k) (by omega)
    simp only [↓wt, wu, wk0, wk1, wk2, wk3, Nat.reduceAdd, Nat.reduceEqDiff, Nat.reduceLeDiff, Nat.reduceLT, Nat.reduceMul, Int.reduceLE, Int.reduceLT, Int.reduceEq, Int.reduceNe, wk4, laidS, keepS]
    repeat' (first | (refine r_casesD (fun hp hb => ?_) (fun hp hb => ?_) <;> simp only [↓wt, wu, wk0, wk1, wk2, wk3, Nat.reduceAdd, Nat.reduceEqDiff, Nat.reduceLeDiff, Nat.reduceLT, Nat.reduceMul, Int.reduceLE, Int.reduceLT, Int.reduceEq, Int.reduceNe, wk4, laidS, keepS, hb]) | (refine r_casesN (fun hp hb => ?_) (fun hp hb => ?_) <;> simp only [↓wt, wu, wk0, wk1, wk2, wk3, Nat.reduceAdd, Nat.reduceEqDiff, Nat.reduceLeDiff, Nat.reduceLT, Nat.reduceMul, Int.reduceLE, Int.reduceLT, Int.reduceEq, Int.reduceNe, wk4, laidS, keepS, hb]) | (refine r_casesM (fun hp hb => ?_) (fun hp hb => ?_) <;> simp only [↓wt, wu, wk0, wk1, wk2, wk3, Nat.reduceAdd, Nat.reduceEqDiff, Nat.reduceLeDiff, Nat.reduceLT, Nat.reduceMul, Int.reduceLE, Int.reduceLT, Int.reduceEq, Int.reduceNe, wk4, laidS, keepS, hb]) | (refine r_casesB (fun hp hb => ?_) (fun hp hb => ?_) <;> simp only [↓wt, wu, wk0, wk1, wk2, wk3, Nat.reduceAdd, Nat.reduceEqDiff, Nat.reduceLeDiff, Nat.reduceLT, Nat.reduceMul, Int.reduceLE, Int.reduceLT, Int.reduceEq, Int.reduceNe, wk4, laidS, keepS, hb]) | (refine r_gcasesD (fun hp hb => ?_) (fun hp hb => ?_) <;> simp only [↓wt, wu, wk0, wk1, wk2, wk3, Nat.reduceAdd, Nat.reduceEqDiff, Nat.reduceLeDiff, Nat.reduceLT, Nat.reduceMul, Int.reduceLE, Int.reduceLT, Int.reduceEq, Int.reduceNe, wk4, laidS, keepS, hb]) | (refine r_gcasesN (fun hp hb => ?_) (fun hp hb => ?_) <;> simp only [↓wt, wu, wk0, wk1, wk2, wk3, Nat.reduceAdd, Nat.reduceEqDiff, Nat.reduceLeDiff, Nat.reduceLT, Nat.reduceMul, Int.reduceLE, Int.reduceLT, Int.reduceEq, Int.reduceNe, wk4, laidS, keepS, hb]) | (refine r_gcasesM (fun hp hb => ?_) (fun hp hb => ?_) <;> simp only [↓wt, wu, wk0, wk1, wk2, wk3, Nat.reduceAdd, Nat.reduceEqDiff, Nat.reduceLeDiff, Nat.reduceLT, Nat.reduceMul, Int.reduceLE, Int.reduceLT, Int.reduceEq, Int.reduceNe, wk4, laidS, keepS, hb]) | (refine r_gcasesB (fun hp hb => ?_) (fun hp hb => ?_) <;> simp only [↓wt, wu, wk0, wk1, wk2, wk3, Nat.reduceAdd, Nat.reduceEqDiff, Nat.reduceLeDiff, Nat.reduceLT, Nat.reduceMul, Int.reduceLE, Int.reduceLT, Int.reduceEq, Int.reduceNe, wk4, laidS, keepS, hb]) | ((with_reducible refine And.intro ?_ ?_); omega) | fail)
    · have hkl : k < a.length := by omega
      refine draw_rule tabOk mixed [0, 0, 0, 0, 0, 0, 0, 0, 0, 0, 0] [[], [], [0, 1], [0, 1, 2], [0, 1, 2, 3], [], [], [5, 6], [5, 6, 7], [5, 6, 7, 8], [0, 1, 2, 3, 4, 5, 6, 7, 8, 9]] (by kernel_rfl) ?_
      simp only [↓wt, wu, wk0, wk1, wk2, wk3, Nat.reduceAdd, Nat.reduceEqDiff, Nat.reduceLeDiff, Nat.reduceLT, Nat.reduceMul, Int.reduceLE, Int.reduceLT, Int.reduceEq, Int.reduceNe, wk4, laidS, keepS, elem_Bs, Bs]
      repeat (refine And.intro (by omega) ?_)
      by_cases h3 : a.getD k [] = b.getD k []
      · have hb : (a.getD k [] == b.getD k []) = true := beq_iff_eq.2 h3
        simp only [↓wt, wu, wk0, wk1, wk2, wk3, Nat.reduceAdd, Nat.reduceEqDiff, Nat.reduceLeDiff, Nat.reduceLT, Nat.reduceMul, Int.reduceLE, Int.reduceLT, Int.reduceEq, Int.reduceNe, wk4, laidS, keepS, hb, e3]
        refine ⟨k + 1, ⟨by omega, fun j hj => ?_⟩, by omega, ?_⟩
        · rcases Nat.lt_or_ge j k with h | h
          · exact hG j h
          · have : j = k := by omega
            subst this; exact h3
        · simp only [↓wt, wu, wk0, wk1, wk2, wk3, wkf, Nat.reduceAdd, Nat.reduceEqDiff, Nat.reduceLeDiff, Nat.reduceLT, Nat.reduceMul, Int.reduceLE, Int.reduceLT, Int.reduceEq, Int.reduceNe, wk4, laidS, keepS, underL_Bs, e3]
          try trivial
      · have hb : (a.getD k [] == b.getD k []) = false := beq_eq_false_iff_ne.2 h3
        simp only [↓wt, wu, wk0, wk1, wk2, wk3, Nat.reduceAdd, Nat.reduceEqDiff, Nat.reduceLeDiff, Nat.reduceLT, Nat.reduceMul, Int.reduceLE, Int.reduceLT, Int.reduceEq, Int.reduceNe, wk4, laidS, keepS, hb, Tryd.results12]
        exact exp_bF (p := a = b) fun h => h3 (by rw [h])
    · simp only [↓wt, wu, wk0, wk1, wk2, wk3, Nat.reduceAdd, Nat.reduceEqDiff, Nat.reduceLeDiff, Nat.reduceLT, Nat.reduceMul, Int.reduceLE, Int.reduceLT, Int.reduceEq, Int.reduceNe, wk4, laidS, keepS, Tryd.results12]
      exact exp_bT (p := a = b) (bs_ext h8 fun j hj => hG j (by omega))
end Go.Ab
