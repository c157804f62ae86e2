/- Store: saved, torn. -/
import Derived.Test.YtdnhojfkjgggbaaDoorSt4
set_option linter.unusedSimpArgs false
set_option linter.unusedVariables false
set_option linter.constructorNameAsVariable false
set_option maxRecDepth 100000
namespace Go.Ab
open Go Go.Proofs Go.RowKit

theorem begR_cases (t : Tape4) (x : List UInt8) (m : Int) : (begR t x m).1 = t ∨ ∃ b, (begR t x m).1 = wrT t b (frL x) := by
  unfold begR
  split
  · exact .inl rfl
  · split
    · exact .inl rfl
    · split
      · exact .inl rfl
      · exact .inr ⟨_, rfl⟩
theorem begR_fit {t : Tape4} {x : List UInt8} {m : Int} (ht : t.Lt) (hx : x.length ≤ 100000) : (begR t x m).1.Fit := by
  have hfl := frL_len x
  have hpl := putL_len10 (n := x.length) (by omega)
  rcases begR_cases t x m with h | ⟨b, h⟩
  · rw [h]; exact ht.fit
  · rw [h]
    obtain ⟨h1, h2, h3, h4⟩ := ht
    unfold wrT
    split
    · split <;> refine ⟨?_, ?_, ?_, ?_⟩ <;> simp only [Fit8, List.length_append] <;> omega
    · refine ⟨?_, ?_, ?_, ?_⟩ <;> simp only [Fit8] <;> omega
noncomputable def savR (t : Tape4) (x : List UInt8) (m : Int) : Tape4 × Int :=
  if (begR t x m).2.2 ≠ 0 then (t, (begR t x m).2.2) else (bif (begR t x m).2.1 then tuT (syT (begR t x m).1 (begR t x m).2.1) else syT (begR t x m).1 (begR t x m).2.1, 0)
noncomputable def torR (t : Tape4) (x : List UInt8) (m n : Int) : Tape4 × Int :=
  if (begR t x m).2.2 ≠ 0 then (t, (begR t x m).2.2) else (loT (begR t x m).1 n, 0)
noncomputable def resV (r : Tape4 × Int) : AV := .t [tv r.1, .c (.int .i64 r.2)]
theorem exp_res {M : Mem} {r : Tape4 × Int} {u : Tape4} {k : Int} (h : r = (u, k)) :
    Exp M (.t [.g [.l 1 (u.a.map encB), .l 1 (u.b.map encB), .l 1 (u.c.map encB), .l 1 (u.d.map encB)], .c (.int .i64 k)]) (resV r) := by
  rw [resV, h]
  exact exp_t ⟨⟨weak_g, arg_tape (M := M) (ids := []) |>.2.2.2⟩, ⟨weak_c, .c _⟩, trivial⟩
theorem okR_beg {t : Tape4} {b k : Value} : OkR (Under 0) (.t [tv t, .c b, .c k]) := ⟨⟨okR_Bs, okR_Bs, okR_Bs, okR_Bs, trivial⟩, .c _, .c _, trivial⟩
set_option maxHeartbeats 4000000 in
theorem save_call (t : Tape4) (x : List UInt8) (m : Int) (ht : t.Lt) (hx : x.length ≤ 100000) : PCall Tryd.prog 23 [tv t, Bs x, .c (.int .i64 m)] (resV (savR t x m)) := by
  have m1 := begin_call t x m ht hx 
  have hfb := begR_fit (m := m) ht hx
  have hs : savR t x m = if (begR t x m).2.2 ≠ 0 then (t, (begR t x m).2.2) else (bif (begR t x m).2.1 then tuT (syT (begR t x m).1 (begR t x m).2.1) else syT (begR t x m).1 (begR t x m).2.1, 0) := rfl
  unfold begV at m1
  generalize begR t x m = r at m1 hfb hs
  obtain ⟨u, bb, k⟩ := r
  dsimp only at m1 hfb hs
  have m2 := sync_call u bb hfb
  have m3 := turn_call (syT u bb)
  refine pcall_body tabOk Tryd.func23 rfl rfl (by rw [Tryd.ntmps23]; simp) ?_
  simp only [Tryd.ntmps23, tv, TapeA, Bs]
  simp only [↓wt, wu, wk0, wk1, wk2, wk3, Nat.reduceAdd, Nat.reduceEqDiff, Nat.reduceLeDiff, Nat.reduceLT, Nat.reduceMul, Int.reduceLE, Int.reduceLT, Int.reduceEq, Int.reduceNe, wk4, laidS, keepS]
  refine icall_drop [] m1 ⟨arg_tvE rfl rfl rfl rfl, arg_l (pureB _), arg_c, trivial⟩ okR_beg ?_
  simp only [↓wt, wu, wk0, wk1, wk2, wk3, Nat.reduceAdd, Nat.reduceEqDiff, Nat.reduceLeDiff, Nat.reduceLT, Nat.reduceMul, Int.reduceLE, Int.reduceLT, Int.reduceEq, Int.reduceNe, wk4, laidS, keepS, tv, TapeA, Bs]
  by_cases g1 : k = 0
  · have k1 : decide (k = 0) = true := decide_eq_true g1
    rw [if_neg (by simp [g1])] at hs
    simp only [↓wt, wu, wk0, wk1, wk2, wk3, Nat.reduceAdd, Nat.reduceEqDiff, Nat.reduceLeDiff, Nat.reduceLT, Nat.reduceMul, Int.reduceLE, Int.reduceLT, Int.reduceEq, Int.reduceNe, wk4, laidS, keepS, k1]
    refine icall_drop [] m2 ⟨arg_tvE rfl rfl rfl rfl, arg_c, trivial⟩ okR_tape ?_
    simp only [↓wt, wu, wk0, wk1, wk2, wk3, Nat.reduceAdd, Nat.reduceEqDiff, Nat.reduceLeDiff, Nat.reduceLT, Nat.reduceMul, Int.reduceLE, Int.reduceLT, Int.reduceEq, Int.reduceNe, wk4, laidS, keepS, tv, TapeA, Bs]
    cases bb with
    | false =>
      simp only [↓wt, wu, wk0, wk1, wk2, wk3, Nat.reduceAdd, Nat.reduceEqDiff, Nat.reduceLeDiff, Nat.reduceLT, Nat.reduceMul, Int.reduceLE, Int.reduceLT, Int.reduceEq, Int.reduceNe, wk4, laidS, keepS, Tryd.results23]
      exact exp_res (u := syT u false) hs
    | true =>
      simp only [↓wt, wu, wk0, wk1, wk2, wk3, Nat.reduceAdd, Nat.reduceEqDiff, Nat.reduceLeDiff, Nat.reduceLT, Nat.reduceMul, Int.reduceLE, Int.reduceLT, Int.reduceEq, Int.reduceNe, wk4, laidS, keepS]
      refine icall_drop [] m3 ⟨arg_tvE rfl rfl rfl rfl, trivial⟩ okR_tape ?_
      simp only [↓wt, wu, wk0, wk1, wk2, wk3, Nat.reduceAdd, Nat.reduceEqDiff, Nat.reduceLeDiff, Nat.reduceLT, Nat.reduceMul, Int.reduceLE, Int.reduceLT, Int.reduceEq, Int.reduceNe, wk4, laidS, keepS, tv, TapeA, Bs, Tryd.results23]
      exact exp_res (u := tuT (syT u true)) hs
  · have k1 : decide (k = 0) = false := decide_eq_false g1
    rw [if_pos g1] at hs
    simp only [↓wt, wu, wk0, wk1, wk2, wk3, Nat.reduceAdd, Nat.reduceEqDiff, Nat.reduceLeDiff, Nat.reduceLT, Nat.reduceMul, Int.reduceLE, Int.reduceLT, Int.reduceEq, Int.reduceNe, wk4, laidS, keepS, k1, Tryd.results23]
    exact exp_res (u := t) hs
set_option maxHeartbeats 4000000 in
theorem rsave_call (t : Tape4) (x : List UInt8) (m : Int) (ht : t.Lt) (hx : x.length ≤ 100000) : PCall Tryd.prog 24 [tv t, Bs x, .c (.int .i64 m)] (resV (savR t x m)) := by
  have m1 := written_call t x m ht hx
  have hfb := begR_fit (m := m) ht hx
  have hs : savR t x m = if (begR t x m).2.2 ≠ 0 then (t, (begR t x m).2.2) else (bif (begR t x m).2.1 then tuT (syT (begR t x m).1 (begR t x m).2.1) else syT (begR t x m).1 (begR t x m).2.1, 0) := rfl
  unfold begV at m1
  generalize begR t x m = r at m1 hfb hs
  obtain ⟨u, bb, k⟩ := r
  dsimp only at m1 hfb hs
  have m2 := rsync_call u bb hfb
  have m3 := rturn_call (syT u bb)
  refine pcall_body tabOk Tryd.func24 rfl rfl (by rw [Tryd.ntmps24]; simp) ?_
  simp only [Tryd.ntmps24, tv, TapeA, Bs]
  simp only [↓wt, wu, wk0, wk1, wk2, wk3, Nat.reduceAdd, Nat.reduceEqDiff, Nat.reduceLeDiff, Nat.reduceLT, Nat.reduceMul, Int.reduceLE, Int.reduceLT, Int.reduceEq, Int.reduceNe, wk4, laidS, keepS]
  refine icall_drop [] m1 ⟨arg_tvE rfl rfl rfl rfl, arg_l (pureB _), arg_c, trivial⟩ okR_beg ?_
  simp only [↓wt, wu, wk0, wk1, wk2, wk3, Nat.reduceAdd, Nat.reduceEqDiff, Nat.reduceLeDiff, Nat.reduceLT, Nat.reduceMul, Int.reduceLE, Int.reduceLT, Int.reduceEq, Int.reduceNe, wk4, laidS, keepS, tv, TapeA, Bs]
  by_cases g1 : k = 0
  · have k1 : decide (k = 0) = true := decide_eq_true g1
    rw [if_neg (by simp [g1])] at hs
    simp only [↓wt, wu, wk0, wk1, wk2, wk3, Nat.reduceAdd, Nat.reduceEqDiff, Nat.reduceLeDiff, Nat.reduceLT, Nat.reduceMul, Int.reduceLE, Int.reduceLT, Int.reduceEq, Int.reduceNe, wk4, laidS, keepS, k1]
    refine icall_drop [] m2 ⟨arg_tvE rfl rfl rfl rfl, arg_c, trivial⟩ okR_tape ?_
    simp only [↓wt, wu, wk0, wk1, wk2, wk3, Nat.reduceAdd, Nat.reduceEqDiff, Nat.reduceLeDiff, Nat.reduceLT, Nat.reduceMul, Int.reduceLE, Int.reduceLT, Int.reduceEq, Int.reduceNe, wk4, laidS, keepS, tv, TapeA, Bs]
    cases bb with
    | false =>
      simp only [↓wt, wu, wk0, wk1, wk2, wk3, Nat.reduceAdd, Nat.reduceEqDiff, Nat.reduceLeDiff, Nat.reduceLT, Nat.reduceMul, Int.reduceLE, Int.reduceLT, Int.reduceEq, Int.reduceNe, wk4, laidS, keepS, Tryd.results24]
      exact exp_res (u := syT u false) hs
    | true =>
      simp only [↓wt, wu, wk0, wk1, wk2, wk3, Nat.reduceAdd, Nat.reduceEqDiff, Nat.reduceLeDiff, Nat.reduceLT, Nat.reduceMul, Int.reduceLE, Int.reduceLT, Int.reduceEq, Int.reduceNe, wk4, laidS, keepS]
      refine icall_drop [] m3 ⟨arg_tvE rfl rfl rfl rfl, trivial⟩ okR_tape ?_
      simp only [↓wt, wu, wk0, wk1, wk2, wk3, Nat.reduceAdd, Nat.reduceEqDiff, Nat.reduceLeDiff, Nat.reduceLT, Nat.reduceMul, Int.reduceLE, Int.reduceLT, Int.reduceEq, Int.reduceNe, wk4, laidS, keepS, tv, TapeA, Bs, Tryd.results24]
      exact exp_res (u := tuT (syT u true)) hs
  · have k1 : decide (k = 0) = false := decide_eq_false g1
    rw [if_pos g1] at hs
    simp only [↓wt, wu, wk0, wk1, wk2, wk3, Nat.reduceAdd, Nat.reduceEqDiff, Nat.reduceLeDiff, Nat.reduceLT, Nat.reduceMul, Int.reduceLE, Int.reduceLT, Int.reduceEq, Int.reduceNe, wk4, laidS, keepS, k1, Tryd.results24]
    exact exp_res (u := t) hs
set_option maxHeartbeats 4000000 in
theorem torn_call (t : Tape4) (x : List UInt8) (m n : Int) (ht : t.Lt) (hx : x.length ≤ 100000) (h1 : -9223372036854775808 ≤ n) (h2 : n < 9223372036854775808) : PCall Tryd.prog 25 [tv t, Bs x, .c (.int .i64 m), .c (.int .i64 n)] (resV (torR t x m n)) := by
  have m1 := begin_call t x m ht hx 
  have hfb := begR_fit (m := m) ht hx
  have hs : torR t x m n = if (begR t x m).2.2 ≠ 0 then (t, (begR t x m).2.2) else (loT (begR t x m).1 n, 0) := rfl
  unfold begV at m1
  generalize begR t x m = r at m1 hfb hs
  obtain ⟨u, bb, k⟩ := r
  dsimp only at m1 hfb hs
  have m2 := lose_call u n h1 h2 hfb
  refine pcall_body tabOk Tryd.func25 rfl rfl (by rw [Tryd.ntmps25]; simp) ?_
  simp only [Tryd.ntmps25, tv, TapeA, Bs]
  simp only [↓wt, wu, wk0, wk1, wk2, wk3, Nat.reduceAdd, Nat.reduceEqDiff, Nat.reduceLeDiff, Nat.reduceLT, Nat.reduceMul, Int.reduceLE, Int.reduceLT, Int.reduceEq, Int.reduceNe, wk4, laidS, keepS]
  refine icall_drop [] m1 ⟨arg_tvE rfl rfl rfl rfl, arg_l (pureB _), arg_c, trivial⟩ okR_beg ?_
  simp only [↓wt, wu, wk0, wk1, wk2, wk3, Nat.reduceAdd, Nat.reduceEqDiff, Nat.reduceLeDiff, Nat.reduceLT, Nat.reduceMul, Int.reduceLE, Int.reduceLT, Int.reduceEq, Int.reduceNe, wk4, laidS, keepS, tv, TapeA, Bs]
  by_cases g1 : k = 0
  · have k1 : decide (k = 0) = true := decide_eq_true g1
    rw [if_neg (by simp [g1])] at hs
    simp only [↓wt, wu, wk0, wk1, wk2, wk3, Nat.reduceAdd, Nat.reduceEqDiff, Nat.reduceLeDiff, Nat.reduceLT, Nat.reduceMul, Int.reduceLE, Int.reduceLT, Int.reduceEq, Int.reduceNe, wk4, laidS, keepS, k1]
    refine icall_drop [] m2 ⟨arg_tvE rfl rfl rfl rfl, arg_c, trivial⟩ okR_tape ?_
    simp only [↓wt, wu, wk0, wk1, wk2, wk3, Nat.reduceAdd, Nat.reduceEqDiff, Nat.reduceLeDiff, Nat.reduceLT, Nat.reduceMul, Int.reduceLE, Int.reduceLT, Int.reduceEq, Int.reduceNe, wk4, laidS, keepS, tv, TapeA, Bs, Tryd.results25]
    exact exp_res (u := loT u n) hs
  · have k1 : decide (k = 0) = false := decide_eq_false g1
    rw [if_pos g1] at hs
    simp only [↓wt, wu, wk0, wk1, wk2, wk3, Nat.reduceAdd, Nat.reduceEqDiff, Nat.reduceLeDiff, Nat.reduceLT, Nat.reduceMul, Int.reduceLE, Int.reduceLT, Int.reduceEq, Int.reduceNe, wk4, laidS, keepS, k1, Tryd.results25]
    exact exp_res (u := t) hs
set_option maxHeartbeats 4000000 in
theorem rtorn_call (t : Tape4) (x : List UInt8) (m n : Int) (ht : t.Lt) (hx : x.length ≤ 100000) (h1 : -9223372036854775808 ≤ n) (h2 : n < 9223372036854775808) : PCall Tryd.prog 26 [tv t, Bs x, .c (.int .i64 m), .c (.int .i64 n)] (resV (torR t x m n)) := by
  have m1 := written_call t x m ht hx
  have hfb := begR_fit (m := m) ht hx
  have hs : torR t x m n = if (begR t x m).2.2 ≠ 0 then (t, (begR t x m).2.2) else (loT (begR t x m).1 n, 0) := rfl
  unfold begV at m1
  generalize begR t x m = r at m1 hfb hs
  obtain ⟨u, bb, k⟩ := r
  dsimp only at m1 hfb hs
  have m2 := rlose_call u.a u.b u.c u.d n hfb.1 hfb.2.1 hfb.2.2.1 hfb.2.2.2
  refine pcall_body tabOk Tryd.func26 rfl rfl (by rw [Tryd.ntmps26]; simp) ?_
  simp only [Tryd.ntmps26, tv, TapeA, Bs]
  simp only [↓wt, wu, wk0, wk1, wk2, wk3, Nat.reduceAdd, Nat.reduceEqDiff, Nat.reduceLeDiff, Nat.reduceLT, Nat.reduceMul, Int.reduceLE, Int.reduceLT, Int.reduceEq, Int.reduceNe, wk4, laidS, keepS]
  refine icall_drop [] m1 ⟨arg_tvE rfl rfl rfl rfl, arg_l (pureB _), arg_c, trivial⟩ okR_beg ?_
  simp only [↓wt, wu, wk0, wk1, wk2, wk3, Nat.reduceAdd, Nat.reduceEqDiff, Nat.reduceLeDiff, Nat.reduceLT, Nat.reduceMul, Int.reduceLE, Int.reduceLT, Int.reduceEq, Int.reduceNe, wk4, laidS, keepS, tv, TapeA, Bs]
  by_cases g1 : k = 0
  · have k1 : decide (k = 0) = true := decide_eq_true g1
    rw [if_neg (by simp [g1])] at hs
    simp only [↓wt, wu, wk0, wk1, wk2, wk3, Nat.reduceAdd, Nat.reduceEqDiff, Nat.reduceLeDiff, Nat.reduceLT, Nat.reduceMul, Int.reduceLE, Int.reduceLT, Int.reduceEq, Int.reduceNe, wk4, laidS, keepS, k1]
    refine icall_drop [] m2 ⟨arg_tvE rfl rfl rfl rfl, arg_c, trivial⟩ okR_tape ?_
    simp only [↓wt, wu, wk0, wk1, wk2, wk3, Nat.reduceAdd, Nat.reduceEqDiff, Nat.reduceLeDiff, Nat.reduceLT, Nat.reduceMul, Int.reduceLE, Int.reduceLT, Int.reduceEq, Int.reduceNe, wk4, laidS, keepS, tv, TapeA, Bs, Tryd.results26]
    exact exp_res (u := loT u n) hs
  · have k1 : decide (k = 0) = false := decide_eq_false g1
    rw [if_pos g1] at hs
    simp only [↓wt, wu, wk0, wk1, wk2, wk3, Nat.reduceAdd, Nat.reduceEqDiff, Nat.reduceLeDiff, Nat.reduceLT, Nat.reduceMul, Int.reduceLE, Int.reduceLT, Int.reduceEq, Int.reduceNe, wk4, laidS, keepS, k1, Tryd.results26]
    exact exp_res (u := t) hs
end Go.Ab
