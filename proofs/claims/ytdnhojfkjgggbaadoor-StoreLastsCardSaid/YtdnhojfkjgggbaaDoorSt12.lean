/- StoreLasts. -/
import Derived.Test.YtdnhojfkjgggbaaDoorSt7
set_option linter.unusedSimpArgs false
set_option linter.unusedVariables false
set_option linter.constructorNameAsVariable false
set_option maxRecDepth 100000
namespace Go.Ab
open Go Go.Proofs Go.RowKit

/-- A variable's nil rows, read as rows of data that are empty. -/
theorem see4_rule {P : Program} {c : Code} {K : Exit → ASt → Prop} {sl : Slots} {m : Mem} {N : Nat} (id : Nat) (T0 : TypeId) (sz0 : Nat)
    (hm : m.get id = some ⟨T0, sz0, [.g [.c (.slice none 0 0), .c (.slice none 0 0), .c (.slice none 0 0), .c (.slice none 0 0)]]⟩)
    (h : ACode P c K ⟨sl, m.put id ⟨T0, sz0, [.g [.l 1 [], .l 1 [], .l 1 [], .l 1 []]]⟩, N⟩) : ACode P c K ⟨sl, m, N⟩ := fun ro w0 E D a hst => by
  refine h ro w0 E D a ⟨hst.g.review hm rfl rfl rfl fun i k1 k2 => ?_, hst.r, hst.n, hst.d⟩
  have h0 : i = 0 := by simpa using k1
  subst h0
  refine ⟨rfl, fun j j1 j2 y hy => ?_⟩
  have hj : j < 4 := j1
  have hv : ∀ {y : Value}, Rep E (.c (.slice none 0 0)) y → Rep E (.l 1 []) y := fun h => by cases h; exact .l0 _ _ _
  match j, hj with
  | 0, _ => exact hv hy
  | 1, _ => exact hv hy
  | 2, _ => exact hv hy
  | 3, _ => exact hv hy
theorem savN {lf : List (List UInt8)} {p : List UInt8} {m : Int} (hl : Smalls lf) (hm0 : 0 ≤ m) (hm : m ≤ 20000) (hf : ((frs lf).length : Int) ≤ m) (hp : p.length ≤ 4000) (hn : ¬ m < ((frL p).length : Int)) :
    ∃ lg, savR (frT lf) p m = (frT lg, 0) ∧ Smalls lg ∧ ((frs lg).length : Int) ≤ m ∧ lastD lg = p ∧ lg.length ≠ 0 := by
  have hfl := frL_len p
  have hpl := putL_len10 (n := p.length) (by omega)
  rw [savT hl (by omega) (by omega), if_neg hn]
  by_cases h4 : m < (((frs lf).length + (frL p).length : Nat) : Int)
  · rw [if_pos h4]
    exact ⟨[p], rfl, fun q hq => by rw [List.mem_singleton.1 hq]; omega, by rw [frs_one]; omega, rfl, by simp⟩
  · rw [if_neg h4]
    refine ⟨lf ++ [p], rfl, fun q hq => ?_, by rw [frs_append, frs_one, List.length_append]; omega, ?_, by simp⟩
    · rcases List.mem_append.1 hq with hq | hq
      · exact hl q hq
      · rw [List.mem_singleton.1 hq]; omega
    · simp [lastD]
theorem lenS_nil : lenS [] = 0 := rfl
set_option maxHeartbeats 8000000 in
theorem storelasts_call (l : List (List UInt8)) (x : List UInt8) (m n : Int) (hl : l.length ≤ 1000000000000000) (hp : ∀ p ∈ l, p.length ≤ 1000000000000000) (hx : x.length ≤ 1000000000000000) (h1 : -9223372036854775808 ≤ n) (h2 : n < 9223372036854775808) :
    PCall Tryd.prog 8 [.l 1 (l.map Bs), Bs x, .c (.int .i64 m), .c (.int .i64 n)] (.c (.bool true)) := by
  have hmem : ∀ k, k < l.length → l.getD k [] ∈ l := fun k h => by
    rw [List.getD_eq_getElem?_getD, List.getElem?_eq_getElem h]; exact List.getElem_mem h
  refine pcall_body tabOk Tryd.func8 rfl rfl (by rw [Tryd.ntmps8]; simp) ?_
  simp only [Tryd.ntmps8, Bs]
  simp only [↓wt, wu, wk0, wk1, wk2, wk3, Nat.reduceAdd, Nat.reduceEqDiff, Nat.reduceLeDiff, Nat.reduceLT, Nat.reduceMul, Int.reduceLE, Int.reduceLT, Int.reduceEq, Int.reduceNe, wk4, laidS, keepS]
  refine icall_drop [] saw_call trivial (.c _) ?_
  simp only [↓wt, wu, wk0, wk1, wk2, wk3, Nat.reduceAdd, Nat.reduceEqDiff, Nat.reduceLeDiff, Nat.reduceLT, Nat.reduceMul, Int.reduceLE, Int.reduceLT, Int.reduceEq, Int.reduceNe, wk4, laidS, keepS, Bs]
  refine loop_ruleC tabOk [0, 1, 2, 3] (fun k : Nat => [(9, .c (.int .i64 (x.length + lenS (l.take k) : Nat))), (10, .c (.int .i64 k))]) (fun k => k ≤ l.length ∧ x.length + lenS (l.take k) ≤ 1000000000004000) (fun k => l.length - k) 0 ⟨by omega, by rw [List.take_zero, lenS_nil]; omega⟩ ?_ ?_
  · simp only [↓wt, wu, wk0, wk1, wk2, wk3, wkf, Nat.reduceAdd, Nat.reduceEqDiff, Nat.reduceLeDiff, Nat.reduceLT, Nat.reduceMul, Int.reduceLE, Int.reduceLT, Int.reduceEq, Int.reduceNe, wk4, laidS, keepS, underL_Bs, underL_B, lenS_nil, Nat.add_zero]
    try trivial
  rintro k ⟨hk, hG⟩
  have e3 : IntKind.i64.wrap ((k : Int) + 1) = ((k + 1 : Nat) : Int) := by rw [wrap_i64 (by omega) (by omega)]; omega
  by_cases g1 : (k : Int) < (l.length : Int)
  · have d1 : decide ((k : Int) < (l.length : Int)) = true := decide_eq_true g1
    have hkl : k < l.length := by omega
    have hs := lenS_take hkl
    have hpk := hp _ (hmem k hkl)
    by_cases g2 : ((x.length + lenS (l.take k) : Nat) : Int) ≤ 4000
    · have d2 : decide (((x.length + lenS (l.take k) : Nat) : Int) ≤ 4000) = true := decide_eq_true g2
      have e5 : IntKind.i64.wrap (((x.length + lenS (l.take k) : Nat) : Int) + ((l.getD k []).length : Int)) = ((x.length + lenS (l.take (k + 1)) : Nat) : Int) := by rw [wrap_i64 (by omega) (by omega)]; omega
      simp only [↓wt, wu, wk0, wk1, wk2, wk3, Nat.reduceAdd, Nat.reduceEqDiff, Nat.reduceLeDiff, Nat.reduceLT, Nat.reduceMul, Int.reduceLE, Int.reduceLT, Int.reduceEq, Int.reduceNe, wk4, laidS, keepS, d1, d2]
      simp only [↓wt, wu, wk0, wk1, wk2, wk3, Nat.reduceAdd, Nat.reduceEqDiff, Nat.reduceLeDiff, Nat.reduceLT, Nat.reduceMul, Int.reduceLE, Int.reduceLT, Int.reduceEq, Int.reduceNe, wk4, laidS, keepS, elem_Bs, Bs, e3, e5]
      refine ⟨by omega, by omega, by omega, k + 1, ⟨by omega, by omega⟩, by omega, ?_⟩
      simp only [↓wt, wu, wk0, wk1, wk2, wk3, wkf, Nat.reduceAdd, Nat.reduceEqDiff, Nat.reduceLeDiff, Nat.reduceLT, Nat.reduceMul, Int.reduceLE, Int.reduceLT, Int.reduceEq, Int.reduceNe, wk4, laidS, keepS, underL_Bs, underL_B, e3, e5]
      try trivial
    · have d2 : decide (((x.length + lenS (l.take k) : Nat) : Int) ≤ 4000) = false := decide_eq_false g2
      have d3 : decide (((x.length + lenS (l.take k) : Nat) : Int) > 4000) = true := decide_eq_true (by omega)
      simp only [↓wt, wu, wk0, wk1, wk2, wk3, Nat.reduceAdd, Nat.reduceEqDiff, Nat.reduceLeDiff, Nat.reduceLT, Nat.reduceMul, Int.reduceLE, Int.reduceLT, Int.reduceEq, Int.reduceNe, wk4, laidS, keepS, d1, d2]
      by_cases g3 : (l.length : Int) > 20
      · have d5 : decide ((l.length : Int) > 20) = true := decide_eq_true g3
        simp only [↓wt, wu, wk0, wk1, wk2, wk3, Nat.reduceAdd, Nat.reduceEqDiff, Nat.reduceLeDiff, Nat.reduceLT, Nat.reduceMul, Int.reduceLE, Int.reduceLT, Int.reduceEq, Int.reduceNe, wk4, laidS, keepS, d5, d3, Tryd.results8]
        exact exp_c
      · have d5 : decide ((l.length : Int) > 20) = false := decide_eq_false g3
        simp only [↓wt, wu, wk0, wk1, wk2, wk3, Nat.reduceAdd, Nat.reduceEqDiff, Nat.reduceLeDiff, Nat.reduceLT, Nat.reduceMul, Int.reduceLE, Int.reduceLT, Int.reduceEq, Int.reduceNe, wk4, laidS, keepS, d5, d3, Tryd.results8]
        exact exp_c
  have d1 : decide ((k : Int) < (l.length : Int)) = false := decide_eq_false g1
  have hkl : k = l.length := by omega
  subst hkl
  rw [List.take_length] at *
  simp only [↓wt, wu, wk0, wk1, wk2, wk3, Nat.reduceAdd, Nat.reduceEqDiff, Nat.reduceLeDiff, Nat.reduceLT, Nat.reduceMul, Int.reduceLE, Int.reduceLT, Int.reduceEq, Int.reduceNe, wk4, laidS, keepS, d1]
  by_cases g3 : (l.length : Int) > 20
  · have d5 : decide ((l.length : Int) > 20) = true := decide_eq_true g3
    simp only [↓wt, wu, wk0, wk1, wk2, wk3, Nat.reduceAdd, Nat.reduceEqDiff, Nat.reduceLeDiff, Nat.reduceLT, Nat.reduceMul, Int.reduceLE, Int.reduceLT, Int.reduceEq, Int.reduceNe, wk4, laidS, keepS, d5, Tryd.results8]
    exact exp_c
  have d5 : decide ((l.length : Int) > 20) = false := decide_eq_false g3
  by_cases g4 : ((x.length + lenS l : Nat) : Int) > 4000
  · have d6 : decide (((x.length + lenS l : Nat) : Int) > 4000) = true := decide_eq_true g4
    simp only [↓wt, wu, wk0, wk1, wk2, wk3, Nat.reduceAdd, Nat.reduceEqDiff, Nat.reduceLeDiff, Nat.reduceLT, Nat.reduceMul, Int.reduceLE, Int.reduceLT, Int.reduceEq, Int.reduceNe, wk4, laidS, keepS, d5, d6, Tryd.results8]
    exact exp_c
  have d6 : decide (((x.length + lenS l : Nat) : Int) > 4000) = false := decide_eq_false g4
  by_cases g5 : m < 0
  · have d7 : decide (m < 0) = true := decide_eq_true g5
    simp only [↓wt, wu, wk0, wk1, wk2, wk3, Nat.reduceAdd, Nat.reduceEqDiff, Nat.reduceLeDiff, Nat.reduceLT, Nat.reduceMul, Int.reduceLE, Int.reduceLT, Int.reduceEq, Int.reduceNe, wk4, laidS, keepS, d5, d6, d7, Tryd.results8]
    exact exp_c
  have d7 : decide (m < 0) = false := decide_eq_false g5
  by_cases g6 : m > 20000
  · have d8 : decide (m > 20000) = true := decide_eq_true g6
    simp only [↓wt, wu, wk0, wk1, wk2, wk3, Nat.reduceAdd, Nat.reduceEqDiff, Nat.reduceLeDiff, Nat.reduceLT, Nat.reduceMul, Int.reduceLE, Int.reduceLT, Int.reduceEq, Int.reduceNe, wk4, laidS, keepS, d5, d6, d7, d8, Tryd.results8]
    exact exp_c
  have d8 : decide (m > 20000) = false := decide_eq_false g6
  simp only [↓wt, wu, wk0, wk1, wk2, wk3, Nat.reduceAdd, Nat.reduceEqDiff, Nat.reduceLeDiff, Nat.reduceLT, Nat.reduceMul, Int.reduceLE, Int.reduceLT, Int.reduceEq, Int.reduceNe, wk4, laidS, keepS, d5, d6, d7, d8]
  have hp4 : ∀ k, k < l.length → (l.getD k []).length ≤ 4000 := fun k h => by have := lenS_mem (hmem k h); omega
  refine see4_rule 0 38 4 rfl ?_
  simp only [↓wt, wu, wk0, wk1, wk2, wk3, Nat.reduceAdd, Nat.reduceEqDiff, Nat.reduceLeDiff, Nat.reduceLT, Nat.reduceMul, Int.reduceLE, Int.reduceLT, Int.reduceEq, Int.reduceNe, wk4, laidS, keepS]
  refine loop_ruleM tabOk [0, 1, 2, 3, 11] (fun y : Nat × List (List UInt8) => [(12, .c (.int .i64 y.1))]) (fun y => ⟨[(0, ⟨38, 4, [.g [.l 1 ((frT y.2).a.map encB), .l 1 ((frT y.2).b.map encB), .l 1 ((frT y.2).c.map encB), .l 1 ((frT y.2).d.map encB)]]⟩)], 1⟩)
    (fun y => y.1 ≤ l.length ∧ Smalls y.2 ∧ ((frs y.2).length : Int) ≤ m) (fun y => l.length - y.1) (0, []) ⟨Nat.zero_le _, (show Smalls [] from fun p h => by cases h), (show ((frs []).length : Int) ≤ m by show ((0 : Nat) : Int) ≤ m; omega)⟩ (fun _ => rfl) ?_ ?_
  · simp only [↓wt, wu, wk0, wk1, wk2, wk3, wkf, Nat.reduceAdd, Nat.reduceEqDiff, Nat.reduceLeDiff, Nat.reduceLT, Nat.reduceMul, Int.reduceLE, Int.reduceLT, Int.reduceEq, Int.reduceNe, wk4, laidS, keepS, underL_Bs, underL_B, frs, frT, List.map_nil, under_g]
    try trivial
  rintro ⟨k, lf⟩ ⟨hk2, hsm, hfl⟩
  dsimp only at hk2 hsm hfl ⊢
  have e4 := wsucc (k := k) (by omega)
  have hLt : (frT lf).Lt := frT_Lt (by omega)
  by_cases h8 : (k : Int) < (l.length : Int)
  · have d9 : decide ((k : Int) < (l.length : Int)) = true := decide_eq_true h8
    have hkl : k < l.length := by omega
    have hpk := hp4 k hkl
    have s1 := save_call (frT lf) (l.getD k []) m hLt (by omega)
    have r1 := rsize_call (l.getD k []).length (by omega)
    rw [← frL_len] at r1
    have hfp := frL_len (l.getD k [])
    have hpl := putL_len10 (n := (l.getD k []).length) (by omega)
    by_cases h9 : m < ((frL (l.getD k [])).length : Int)
    · have d10 : decide (((frL (l.getD k [])).length : Int) > m) = true := decide_eq_true h9
      rw [savT hsm (by omega) (by omega), if_pos h9] at s1
      unfold resV at s1
      dsimp only at s1
      have s3 := sameG_call (frT lf) (frT lf)
      rw [sameT_iff.2 rfl] at s3
      simp only [↓wt, wu, wk0, wk1, wk2, wk3, Nat.reduceAdd, Nat.reduceEqDiff, Nat.reduceLeDiff, Nat.reduceLT, Nat.reduceMul, Int.reduceLE, Int.reduceLT, Int.reduceEq, Int.reduceNe, wk4, laidS, keepS, d9]
      refine draw_rule4 tabOk mixed [(38, 0)] [2, 0, 0, 0, 0, 0, 3, 0, 0, 0, 4, 1, 0] [0, 0, 0, 0, 0, 0, 0, 0, 0, 0, 1, 0, 0] [[], [], [], [1, 2], [1, 2, 3], [], [0, 1, 2, 3, 4, 5], [0, 1, 2, 3, 4, 5, 6], [0, 1, 2, 3, 4, 5, 6, 7], [0, 1, 2, 3, 4, 5, 6, 7], [], [0, 1, 2, 3, 4, 5, 6, 7, 8, 10], [0, 1, 2, 3, 4, 5, 6, 7, 8, 9, 10, 11]] (by kernel_rfl) (by kernel_rfl) ?_
      simp only [↓wt, wu, wk0, wk1, wk2, wk3, Nat.reduceAdd, Nat.reduceEqDiff, Nat.reduceLeDiff, Nat.reduceLT, Nat.reduceMul, Int.reduceLE, Int.reduceLT, Int.reduceEq, Int.reduceNe, wk4, laidS, keepS]
      refine d4_readX (fun β => by simp only [↓wt, wu, wk0, wk1, wk2, wk3, Nat.reduceAdd, Nat.reduceEqDiff, Nat.reduceLeDiff, Nat.reduceLT, Nat.reduceMul, Int.reduceLE, Int.reduceLT, Int.reduceEq, Int.reduceNe, wk4, laidS, keepS]; (repeat (first | refine And.intro (by omega) ?_ | refine And.intro (pureB _) ?_ | refine And.intro (pureI _) ?_ | refine And.intro ⟨pureB _, pureB _⟩ ?_ | refine And.intro ⟨pureB _, pureI _⟩ ?_ | refine And.intro ⟨pureI _, pureB _⟩ ?_ | refine And.intro ⟨pureI _, pureI _⟩ ?_)); exact ⟨rfl, rfl⟩) ?_
      simp only [↓wt, wu, wk0, wk1, wk2, wk3, Nat.reduceAdd, Nat.reduceEqDiff, Nat.reduceLeDiff, Nat.reduceLT, Nat.reduceMul, Int.reduceLE, Int.reduceLT, Int.reduceEq, Int.reduceNe, wk4, laidS, keepS, elem_Bs, Bs]
      repeat (refine And.intro (by omega) ?_)
      refine d_pureC (r := .t [tv (frT lf), .c (.int .i64 6)]) (fun M0 => icall_drop [] s1 ⟨arg_tvE rfl rfl rfl rfl, arg_l (pureB _), arg_c, trivial⟩ okR_res ⟨rfl, rfl⟩) ?_
      simp only [↓wt, wu, wk0, wk1, wk2, wk3, Nat.reduceAdd, Nat.reduceEqDiff, Nat.reduceLeDiff, Nat.reduceLT, Nat.reduceMul, Int.reduceLE, Int.reduceLT, Int.reduceEq, Int.reduceNe, wk4, laidS, keepS, tv, TapeA, Bs]
      refine d_heavyX (by simp only [↓wt, wu, wk0, wk1, wk2, wk3, Nat.reduceAdd, Nat.reduceEqDiff, Nat.reduceLeDiff, Nat.reduceLT, Nat.reduceMul, Int.reduceLE, Int.reduceLT, Int.reduceEq, Int.reduceNe, wk4, laidS, keepS, Cell]; (repeat (first | refine And.intro (by omega) ?_ | refine And.intro (pureB _) ?_ | refine And.intro (pureI _) ?_ | refine And.intro ⟨pureB _, pureB _⟩ ?_ | refine And.intro ⟨pureB _, pureI _⟩ ?_ | refine And.intro ⟨pureI _, pureB _⟩ ?_ | refine And.intro ⟨pureI _, pureI _⟩ ?_)); exact ⟨rfl, rfl⟩) ?_
      simp only [↓wt, wu, wk0, wk1, wk2, wk3, Nat.reduceAdd, Nat.reduceEqDiff, Nat.reduceLeDiff, Nat.reduceLT, Nat.reduceMul, Int.reduceLE, Int.reduceLT, Int.reduceEq, Int.reduceNe, wk4, laidS, keepS, Cell]
      simp only [↓wt, wu, wk0, wk1, wk2, wk3, Nat.reduceAdd, Nat.reduceEqDiff, Nat.reduceLeDiff, Nat.reduceLT, Nat.reduceMul, Int.reduceLE, Int.reduceLT, Int.reduceEq, Int.reduceNe, wk4, laidS, keepS, elem_Bs, Bs]
      repeat (refine And.intro (by omega) ?_)
      refine icall_drop [] r1 ⟨arg_c, trivial⟩ (.c _) ?_
      simp only [↓wt, wu, wk0, wk1, wk2, wk3, Nat.reduceAdd, Nat.reduceEqDiff, Nat.reduceLeDiff, Nat.reduceLT, Nat.reduceMul, Int.reduceLE, Int.reduceLT, Int.reduceEq, Int.reduceNe, wk4, laidS, keepS, d10]
      refine icall_drop [] s3 ⟨arg_tvE rfl rfl rfl rfl, arg_tvE rfl rfl rfl rfl, trivial⟩ (.c _) ?_
      simp only [↓wt, wu, wk0, wk1, wk2, wk3, Nat.reduceAdd, Nat.reduceEqDiff, Nat.reduceLeDiff, Nat.reduceLT, Nat.reduceMul, Int.reduceLE, Int.reduceLT, Int.reduceEq, Int.reduceNe, wk4, laidS, keepS, e4]
      refine ⟨(k + 1, lf), ⟨by omega, hsm, hfl⟩, (show l.length - (k + 1) < l.length - k by omega), ?_⟩
      simp only [↓wt, wu, wk0, wk1, wk2, wk3, wkf, Nat.reduceAdd, Nat.reduceEqDiff, Nat.reduceLeDiff, Nat.reduceLT, Nat.reduceMul, Int.reduceLE, Int.reduceLT, Int.reduceEq, Int.reduceNe, wk4, laidS, keepS, underL_Bs, underL_B, under_g]
      try trivial
    · have d10 : decide (((frL (l.getD k [])).length : Int) > m) = false := decide_eq_false h9
      obtain ⟨lg, q1, q2, q3, q4, q5⟩ := savN hsm (by omega) (by omega) hfl hpk h9
      rw [q1] at s1
      unfold resV at s1
      dsimp only at s1
      have gLt : (frT lg).Lt := frT_Lt (by omega)
      have a1 := has_call (frT lg) gLt
      rw [frT_main q2] at a1
      unfold hasV at a1
      rw [q4, show decide (lg.length ≠ 0) = true from decide_eq_true q5] at a1
      have o1 := open_call (frT lg) gLt
      rw [frT_op q2] at o1
      have s3 := sameG_call (frT lg) (frT lg)
      rw [sameT_iff.2 rfl] at s3
      have b1 : (l.getD k [] == l.getD k []) = true := beq_self_eq_true _
      have d11 : decide (((frT lg).a.length : Int) > m) = false := decide_eq_false (show ¬ (((frs lg).length : Int) > m) by omega)
      simp only [↓wt, wu, wk0, wk1, wk2, wk3, Nat.reduceAdd, Nat.reduceEqDiff, Nat.reduceLeDiff, Nat.reduceLT, Nat.reduceMul, Int.reduceLE, Int.reduceLT, Int.reduceEq, Int.reduceNe, wk4, laidS, keepS, d9]
      refine draw_rule4 tabOk mixed [(38, 0)] [2, 0, 0, 0, 0, 0, 3, 0, 0, 0, 4, 1, 0] [0, 0, 0, 0, 0, 0, 0, 0, 0, 0, 1, 0, 0] [[], [], [], [1, 2], [1, 2, 3], [], [0, 1, 2, 3, 4, 5], [0, 1, 2, 3, 4, 5, 6], [0, 1, 2, 3, 4, 5, 6, 7], [0, 1, 2, 3, 4, 5, 6, 7], [], [0, 1, 2, 3, 4, 5, 6, 7, 8, 10], [0, 1, 2, 3, 4, 5, 6, 7, 8, 9, 10, 11]] (by kernel_rfl) (by kernel_rfl) ?_
      simp only [↓wt, wu, wk0, wk1, wk2, wk3, Nat.reduceAdd, Nat.reduceEqDiff, Nat.reduceLeDiff, Nat.reduceLT, Nat.reduceMul, Int.reduceLE, Int.reduceLT, Int.reduceEq, Int.reduceNe, wk4, laidS, keepS]
      refine d4_readX (fun β => by simp only [↓wt, wu, wk0, wk1, wk2, wk3, Nat.reduceAdd, Nat.reduceEqDiff, Nat.reduceLeDiff, Nat.reduceLT, Nat.reduceMul, Int.reduceLE, Int.reduceLT, Int.reduceEq, Int.reduceNe, wk4, laidS, keepS]; (repeat (first | refine And.intro (by omega) ?_ | refine And.intro (pureB _) ?_ | refine And.intro (pureI _) ?_ | refine And.intro ⟨pureB _, pureB _⟩ ?_ | refine And.intro ⟨pureB _, pureI _⟩ ?_ | refine And.intro ⟨pureI _, pureB _⟩ ?_ | refine And.intro ⟨pureI _, pureI _⟩ ?_)); exact ⟨rfl, rfl⟩) ?_
      simp only [↓wt, wu, wk0, wk1, wk2, wk3, Nat.reduceAdd, Nat.reduceEqDiff, Nat.reduceLeDiff, Nat.reduceLT, Nat.reduceMul, Int.reduceLE, Int.reduceLT, Int.reduceEq, Int.reduceNe, wk4, laidS, keepS, elem_Bs, Bs]
      repeat (refine And.intro (by omega) ?_)
      refine d_pureC (r := .t [tv (frT lg), .c (.int .i64 0)]) (fun M0 => icall_drop [] s1 ⟨arg_tvE rfl rfl rfl rfl, arg_l (pureB _), arg_c, trivial⟩ okR_res ⟨rfl, rfl⟩) ?_
      simp only [↓wt, wu, wk0, wk1, wk2, wk3, Nat.reduceAdd, Nat.reduceEqDiff, Nat.reduceLeDiff, Nat.reduceLT, Nat.reduceMul, Int.reduceLE, Int.reduceLT, Int.reduceEq, Int.reduceNe, wk4, laidS, keepS, tv, TapeA, Bs]
      refine d_heavyX (by simp only [↓wt, wu, wk0, wk1, wk2, wk3, Nat.reduceAdd, Nat.reduceEqDiff, Nat.reduceLeDiff, Nat.reduceLT, Nat.reduceMul, Int.reduceLE, Int.reduceLT, Int.reduceEq, Int.reduceNe, wk4, laidS, keepS, Cell]; (repeat (first | refine And.intro (by omega) ?_ | refine And.intro (pureB _) ?_ | refine And.intro (pureI _) ?_ | refine And.intro ⟨pureB _, pureB _⟩ ?_ | refine And.intro ⟨pureB _, pureI _⟩ ?_ | refine And.intro ⟨pureI _, pureB _⟩ ?_ | refine And.intro ⟨pureI _, pureI _⟩ ?_)); exact ⟨rfl, rfl⟩) ?_
      simp only [↓wt, wu, wk0, wk1, wk2, wk3, Nat.reduceAdd, Nat.reduceEqDiff, Nat.reduceLeDiff, Nat.reduceLT, Nat.reduceMul, Int.reduceLE, Int.reduceLT, Int.reduceEq, Int.reduceNe, wk4, laidS, keepS, Cell]
      simp only [↓wt, wu, wk0, wk1, wk2, wk3, Nat.reduceAdd, Nat.reduceEqDiff, Nat.reduceLeDiff, Nat.reduceLT, Nat.reduceMul, Int.reduceLE, Int.reduceLT, Int.reduceEq, Int.reduceNe, wk4, laidS, keepS, elem_Bs, Bs]
      repeat (refine And.intro (by omega) ?_)
      refine icall_drop [] r1 ⟨arg_c, trivial⟩ (.c _) ?_
      simp only [↓wt, wu, wk0, wk1, wk2, wk3, Nat.reduceAdd, Nat.reduceEqDiff, Nat.reduceLeDiff, Nat.reduceLT, Nat.reduceMul, Int.reduceLE, Int.reduceLT, Int.reduceEq, Int.reduceNe, wk4, laidS, keepS, d10]
      refine icall_drop [] a1 ⟨arg_tvE rfl rfl rfl rfl, trivial⟩ okR_has ?_
      simp only [↓wt, wu, wk0, wk1, wk2, wk3, Nat.reduceAdd, Nat.reduceEqDiff, Nat.reduceLeDiff, Nat.reduceLT, Nat.reduceMul, Int.reduceLE, Int.reduceLT, Int.reduceEq, Int.reduceNe, wk4, laidS, keepS, Bs]
      refine draw_rule tabOk mixed [0, 0, 0, 0, 0, 0, 0, 0, 2, 0, 0, 2, 2, 2, 0, 0, 0, 0, 0, 2, 0, 0, 0, 0, 0, 2, 3, 2, 3, 0, 0] [[], [0], [0, 1], [0, 1, 2], [0, 1, 2, 3], [0, 1, 2, 3, 4], [0, 1, 2, 3, 4, 5], [0, 1, 2, 3, 4, 5, 6], [0, 1, 2, 3, 4, 5, 6, 7], [0, 1, 2, 3, 4, 5, 6], [0, 1, 2, 3, 4, 5, 6], [0, 1, 2, 3, 4, 5, 6, 9, 10], [0, 1, 2, 3, 4, 5, 6, 9, 10, 11], [0, 1, 2, 3, 4, 5, 6, 9, 10, 11, 12], [0, 1, 2, 3, 4, 5, 6, 7, 8, 9, 10, 11, 12, 13], [0, 1, 2, 3, 4, 5, 6, 7, 8, 9, 10, 11, 12, 13, 14], [0, 1, 2, 3, 4, 5, 6, 7, 8, 9, 10, 11, 12, 13, 14, 15], [0, 1, 2, 3, 4, 5, 6, 7, 8, 9, 10, 11, 12, 13, 14, 15, 16], [0, 1, 2, 3, 4, 5, 6, 7, 8, 9, 10, 11, 12, 13, 14, 15, 16, 17], [0, 1, 2, 3, 4, 5, 6, 7, 8, 9, 10, 11, 12, 13, 14, 15, 16, 17, 18], [0, 1, 2, 3, 4, 5, 6, 7, 8, 9, 10, 11, 12, 13, 14, 15, 16, 17, 18, 19], [0, 1, 2, 3, 4, 5, 6, 7, 8, 9, 10, 11, 12, 13, 14, 15, 16], [0, 1, 2, 3, 4, 5, 6, 7, 8, 9, 10, 11, 12, 13, 14, 15, 16, 17, 18, 19, 20, 21], [0, 1, 2, 3, 4, 5, 6, 7, 8, 9, 10, 11, 12, 13, 14, 15, 16, 17, 18, 19, 20, 21, 22], [0, 1, 2, 3, 4, 5, 6, 7, 8, 9, 10, 11, 12, 13, 14, 15, 16, 17, 18, 19, 20, 21, 22, 23], [0, 1, 2, 3, 4, 5, 6, 7, 8, 9, 10, 11, 12, 13, 14, 15, 16, 17, 18, 19, 20, 21, 22, 23, 24], [0, 1, 2, 3, 4, 5, 6, 7, 8, 9, 10, 11, 12, 13, 14, 15, 16, 17, 18, 19, 20, 21, 22, 23, 24, 25], [0, 1, 2, 3, 4, 5, 6, 7, 8, 9, 10, 11, 12, 13, 14, 15, 16, 17, 18, 19, 20, 21, 22, 23, 24], [0, 1, 2, 3, 4, 5, 6, 7, 8, 9, 10, 11, 12, 13, 14, 15, 16, 17, 18, 19, 20, 21, 22, 23, 24, 25, 26, 27], [0, 1, 2, 3, 4, 5, 6, 7, 8, 9, 10, 11, 12, 13, 14, 15, 16, 17, 18, 19, 20, 21, 22, 23, 24, 25, 26, 27, 28], [0, 1, 2, 3, 4, 5, 6, 7, 8, 9, 10, 11, 12, 13, 14, 15, 16, 17, 18, 19, 20, 21, 22, 23, 24, 25, 26, 27, 28, 29]] (by kernel_rfl) ?_
      simp only [↓wt, wu, wk0, wk1, wk2, wk3, Nat.reduceAdd, Nat.reduceEqDiff, Nat.reduceLeDiff, Nat.reduceLT, Nat.reduceMul, Int.reduceLE, Int.reduceLT, Int.reduceEq, Int.reduceNe, wk4, laidS, keepS, elem_Bs, Bs, b1, d11]
      repeat (refine And.intro (by omega) ?_)
      refine d_pureC (r := tv (frT lg)) (fun M0 => icall_drop [] o1 ⟨arg_tvE rfl rfl rfl rfl, trivial⟩ okR_tape ⟨rfl, rfl⟩) ?_
      simp only [↓wt, wu, wk0, wk1, wk2, wk3, Nat.reduceAdd, Nat.reduceEqDiff, Nat.reduceLeDiff, Nat.reduceLT, Nat.reduceMul, Int.reduceLE, Int.reduceLT, Int.reduceEq, Int.reduceNe, wk4, laidS, keepS, tv, TapeA, Bs]
      refine d_pureC (fun M0 => icall_drop [] s3 ⟨arg_tvE rfl rfl rfl rfl, arg_tvE rfl rfl rfl rfl, trivial⟩ (.c _) ⟨rfl, rfl⟩) ?_
      simp only [↓wt, wu, wk0, wk1, wk2, wk3, Nat.reduceAdd, Nat.reduceEqDiff, Nat.reduceLeDiff, Nat.reduceLT, Nat.reduceMul, Int.reduceLE, Int.reduceLT, Int.reduceEq, Int.reduceNe, wk4, laidS, keepS, e4]
      refine ⟨(k + 1, lg), ⟨by omega, q2, q3⟩, (show l.length - (k + 1) < l.length - k by omega), ?_⟩
      simp only [↓wt, wu, wk0, wk1, wk2, wk3, wkf, Nat.reduceAdd, Nat.reduceEqDiff, Nat.reduceLeDiff, Nat.reduceLT, Nat.reduceMul, Int.reduceLE, Int.reduceLT, Int.reduceEq, Int.reduceNe, wk4, laidS, keepS, underL_Bs, underL_B, under_g]
      try trivial
  · have d9 : decide ((k : Int) < (l.length : Int)) = false := decide_eq_false h8
    have a1 := has_call (frT lf) hLt
    rw [frT_main hsm] at a1
    unfold hasV at a1
    have hx4 : x.length ≤ 4000 := by omega
    have hfx := frL_len x
    have hpx := putL_len10 (n := x.length) (by omega)
    have r1 := rsize_call x.length (by omega)
    rw [← hfx] at r1
    have t1 := torn_call (frT lf) x m n hLt (by omega) h1 h2
    simp only [↓wt, wu, wk0, wk1, wk2, wk3, Nat.reduceAdd, Nat.reduceEqDiff, Nat.reduceLeDiff, Nat.reduceLT, Nat.reduceMul, Int.reduceLE, Int.reduceLT, Int.reduceEq, Int.reduceNe, wk4, laidS, keepS, d9]
    refine icall_drop [] a1 ⟨arg_tvE rfl rfl rfl rfl, trivial⟩ okR_has ?_
    simp only [↓wt, wu, wk0, wk1, wk2, wk3, Nat.reduceAdd, Nat.reduceEqDiff, Nat.reduceLeDiff, Nat.reduceLT, Nat.reduceMul, Int.reduceLE, Int.reduceLT, Int.reduceEq, Int.reduceNe, wk4, laidS, keepS, Bs]
    rcases torT (n := n) (m := m) hsm (show x.length < 18446744073709551616 by omega) (by omega) (by omega) with ⟨c1, c2⟩ | ⟨c1, u, c2, c3, c4⟩
    · rw [c2] at t1
      unfold resV at t1
      dsimp only at t1
      have d10 : decide (((frL x).length : Int) > m) = true := decide_eq_true c1
      refine icall_drop [] t1 ⟨arg_tvE rfl rfl rfl rfl, arg_l (pureB _), arg_c, arg_c, trivial⟩ okR_res ?_
      simp only [↓wt, wu, wk0, wk1, wk2, wk3, Nat.reduceAdd, Nat.reduceEqDiff, Nat.reduceLeDiff, Nat.reduceLT, Nat.reduceMul, Int.reduceLE, Int.reduceLT, Int.reduceEq, Int.reduceNe, wk4, laidS, keepS, tv, TapeA, Bs]
      refine icall_drop [] r1 ⟨arg_c, trivial⟩ (.c _) ?_
      simp only [↓wt, wu, wk0, wk1, wk2, wk3, Nat.reduceAdd, Nat.reduceEqDiff, Nat.reduceLeDiff, Nat.reduceLT, Nat.reduceMul, Int.reduceLE, Int.reduceLT, Int.reduceEq, Int.reduceNe, wk4, laidS, keepS, d10, Tryd.results8]
      exact exp_c
    rw [c2] at t1
    unfold resV at t1
    dsimp only at t1
    have o1 := open_call u c3
    have oLt : (opT u).Lt := by
      rcases c4 with h | ⟨h, _⟩ <;> rw [h]
      · exact hLt
      · exact frT_Lt (by rw [frs_append, frs_one, List.length_append]; omega)
    have a2 := has_call (opT u) oLt
    unfold hasV at a2
    have hsx : Smalls (lf ++ [x]) := fun p hp => by
      rcases List.mem_append.1 hp with hp | hp
      · exact hsm p hp
      · rw [List.mem_singleton.1 hp]; omega
    have hw : (lastD (mainF (opT u)) = lastD lf ∧ decide ((mainF (opT u)).length ≠ 0) = decide (lf.length ≠ 0)) ∨ (lastD (mainF (opT u)) = x ∧ decide ((mainF (opT u)).length ≠ 0) = true ∧ ((frL x).length : Int) ≤ n) := by
      rcases c4 with h | ⟨h, h'⟩ <;> rw [h]
      · rw [frT_main hsm]; exact .inl ⟨rfl, rfl⟩
      · rw [frT_main hsx]; exact .inr ⟨by simp [lastD], decide_eq_true (by simp), h'⟩
    generalize lastD (mainF (opT u)) = y1 at a2 hw
    generalize decide ((mainF (opT u)).length ≠ 0) = b1 at a2 hw
    generalize decide (lf.length ≠ 0) = b0 at hw ⊢
    generalize lastD lf = y0 at hw ⊢
    generalize opT u = U at o1 a2
    refine icall_drop [] t1 ⟨arg_tvE rfl rfl rfl rfl, arg_l (pureB _), arg_c, arg_c, trivial⟩ okR_res ?_
    simp only [↓wt, wu, wk0, wk1, wk2, wk3, Nat.reduceAdd, Nat.reduceEqDiff, Nat.reduceLeDiff, Nat.reduceLT, Nat.reduceMul, Int.reduceLE, Int.reduceLT, Int.reduceEq, Int.reduceNe, wk4, laidS, keepS, tv, TapeA, Bs]
    refine icall_drop [] o1 ⟨arg_tvE rfl rfl rfl rfl, trivial⟩ okR_tape ?_
    simp only [↓wt, wu, wk0, wk1, wk2, wk3, Nat.reduceAdd, Nat.reduceEqDiff, Nat.reduceLeDiff, Nat.reduceLT, Nat.reduceMul, Int.reduceLE, Int.reduceLT, Int.reduceEq, Int.reduceNe, wk4, laidS, keepS, tv, TapeA, Bs]
    refine icall_drop [] a2 ⟨arg_tvE rfl rfl rfl rfl, trivial⟩ okR_has ?_
    simp only [↓wt, wu, wk0, wk1, wk2, wk3, Nat.reduceAdd, Nat.reduceEqDiff, Nat.reduceLeDiff, Nat.reduceLT, Nat.reduceMul, Int.reduceLE, Int.reduceLT, Int.reduceEq, Int.reduceNe, wk4, laidS, keepS, Bs]
    rcases hw with ⟨w1, w2⟩ | ⟨w1, w2, w3⟩
    · subst w1 w2
      have f1 : (b1 == b1) = true := beq_self_eq_true _
      have f2 : (y1 == y1) = true := beq_self_eq_true _
      simp only [↓wt, wu, wk0, wk1, wk2, wk3, Nat.reduceAdd, Nat.reduceEqDiff, Nat.reduceLeDiff, Nat.reduceLT, Nat.reduceMul, Int.reduceLE, Int.reduceLT, Int.reduceEq, Int.reduceNe, wk4, laidS, keepS, f1, f2, Tryd.results8]
      exact exp_c
    subst w1 w2
    have f3 : (y1 == y1) = true := beq_self_eq_true _
    have f4 : decide (n ≥ ((frL y1).length : Int)) = true := decide_eq_true w3
    cases b0 with
    | false =>
      have f1 : (false == true) = false := rfl
      simp only [↓wt, wu, wk0, wk1, wk2, wk3, Nat.reduceAdd, Nat.reduceEqDiff, Nat.reduceLeDiff, Nat.reduceLT, Nat.reduceMul, Int.reduceLE, Int.reduceLT, Int.reduceEq, Int.reduceNe, wk4, laidS, keepS, f1, f3]
      refine icall_drop [] r1 ⟨arg_c, trivial⟩ (.c _) ?_
      simp only [↓wt, wu, wk0, wk1, wk2, wk3, Nat.reduceAdd, Nat.reduceEqDiff, Nat.reduceLeDiff, Nat.reduceLT, Nat.reduceMul, Int.reduceLE, Int.reduceLT, Int.reduceEq, Int.reduceNe, wk4, laidS, keepS, f4, Tryd.results8]
      exact exp_c
    | true =>
      have f1 : (true == true) = true := rfl
      simp only [↓wt, wu, wk0, wk1, wk2, wk3, Nat.reduceAdd, Nat.reduceEqDiff, Nat.reduceLeDiff, Nat.reduceLT, Nat.reduceMul, Int.reduceLE, Int.reduceLT, Int.reduceEq, Int.reduceNe, wk4, laidS, keepS, f1]
      cases f2 : y0 == y1 with
      | true =>
        simp only [↓wt, wu, wk0, wk1, wk2, wk3, Nat.reduceAdd, Nat.reduceEqDiff, Nat.reduceLeDiff, Nat.reduceLT, Nat.reduceMul, Int.reduceLE, Int.reduceLT, Int.reduceEq, Int.reduceNe, wk4, laidS, keepS, f2, Tryd.results8]
        exact exp_c
      | false =>
        simp only [↓wt, wu, wk0, wk1, wk2, wk3, Nat.reduceAdd, Nat.reduceEqDiff, Nat.reduceLeDiff, Nat.reduceLT, Nat.reduceMul, Int.reduceLE, Int.reduceLT, Int.reduceEq, Int.reduceNe, wk4, laidS, keepS, f2, f3]
        refine icall_drop [] r1 ⟨arg_c, trivial⟩ (.c _) ?_
        simp only [↓wt, wu, wk0, wk1, wk2, wk3, Nat.reduceAdd, Nat.reduceEqDiff, Nat.reduceLeDiff, Nat.reduceLT, Nat.reduceMul, Int.reduceLE, Int.reduceLT, Int.reduceEq, Int.reduceNe, wk4, laidS, keepS, f4, Tryd.results8]
        exact exp_c
end Go.Ab
