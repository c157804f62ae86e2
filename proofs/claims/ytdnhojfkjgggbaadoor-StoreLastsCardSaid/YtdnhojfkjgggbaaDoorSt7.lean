/- Store: awake, light; StoreOpens. -/
import Derived.Test.YtdnhojfkjgggbaaDoorSt6
import Derived.Test.YtdnhojfkjgggbaaDoorAbG7
set_option linter.unusedSimpArgs false
set_option linter.unusedVariables false
set_option linter.constructorNameAsVariable false
set_option maxRecDepth 100000
namespace Go.Ab
open Go Go.Proofs Go.RowKit

theorem okR_res {r : Tape4} {k : Value} : OkR (Under 0) (.t [tv r, .c k]) := ⟨⟨okR_Bs, okR_Bs, okR_Bs, okR_Bs, trivial⟩, .c _, trivial⟩
theorem okR_has {x : List UInt8} {k : Value} : OkR (Under 0) (.t [Bs x, .c k]) := ⟨okR_Bs, .c _, trivial⟩
def Tape4.Wd (t : Tape4) : Prop := t.a.length ≤ 1000000000000000 ∧ t.b.length ≤ 1000000000000000 ∧ t.c.length ≤ 1000000000000000 ∧ t.d.length ≤ 1000000000000000
set_option maxHeartbeats 4000000 in
theorem light_call (t : Tape4) (x : List UInt8) (ht : t.Wd) (hx : x.length < 4611686018427387904) : PCall Tryd.prog 17 [tv t, Bs x] (.c (.bool (decide (t.n ≤ 4000 ∧ x.length ≤ 4000)))) := by
  obtain ⟨h1, h2, h3, h4⟩ := ht
  have hn : t.n = t.a.length + t.b.length + t.c.length + t.d.length := rfl
  have e1 : IntKind.i64.wrap ((t.a.length : Int) + (t.b.length : Int)) = ((t.a.length + t.b.length : Nat) : Int) := by rw [wrap_i64 (by omega) (by omega)]; omega
  have e2 : IntKind.i64.wrap (((t.a.length + t.b.length : Nat) : Int) + (t.c.length : Int)) = ((t.a.length + t.b.length + t.c.length : Nat) : Int) := by rw [wrap_i64 (by omega) (by omega)]; omega
  have e3 : IntKind.i64.wrap (((t.a.length + t.b.length + t.c.length : Nat) : Int) + (t.d.length : Int)) = (t.n : Int) := by rw [wrap_i64 (by omega) (by omega)]; omega
  refine pcall_body tabOk Tryd.func17 rfl rfl (by rw [Tryd.ntmps17]; simp) ?_
  simp only [Tryd.ntmps17, tv, TapeA, Bs]
  simp only [↓wt, wu, wk0, wk1, wk2, wk3, Nat.reduceAdd, Nat.reduceEqDiff, Nat.reduceLeDiff, Nat.reduceLT, Nat.reduceMul, Int.reduceLE, Int.reduceLT, Int.reduceEq, Int.reduceNe, wk4, laidS, keepS, e1, e2, e3]
  by_cases g1 : (t.n : Int) ≤ 4000
  · have k1 : decide ((t.n : Int) ≤ 4000) = true := decide_eq_true g1
    simp only [↓wt, wu, wk0, wk1, wk2, wk3, Nat.reduceAdd, Nat.reduceEqDiff, Nat.reduceLeDiff, Nat.reduceLT, Nat.reduceMul, Int.reduceLE, Int.reduceLT, Int.reduceEq, Int.reduceNe, wk4, laidS, keepS, k1, Tryd.results17]
    refine exp_bb ?_
    by_cases g2 : (x.length : Int) ≤ 4000
    · rw [decide_eq_true g2, decide_eq_true (by omega)]
    · rw [decide_eq_false g2, decide_eq_false (by omega)]
  · have k1 : decide ((t.n : Int) ≤ 4000) = false := decide_eq_false g1
    simp only [↓wt, wu, wk0, wk1, wk2, wk3, Nat.reduceAdd, Nat.reduceEqDiff, Nat.reduceLeDiff, Nat.reduceLT, Nat.reduceMul, Int.reduceLE, Int.reduceLT, Int.reduceEq, Int.reduceNe, wk4, laidS, keepS, k1, Tryd.results17]
    exact exp_bb (decide_eq_false (by omega))
theorem frL97 (c : UInt8) : (frL [c]).length = 6 := by rw [frL_len, show [c].length = 1 from rfl, putL_low (by decide)]; rfl
theorem zeroT_arg {M : Mem} {ids : List Nat} : VOkA M (.g [.c (.slice none 0 0), .c (.slice none 0 0), .c (.slice none 0 0), .c (.slice none 0 0)]) ∧ (∀ k ∈ idsA (.g [.c (.slice none 0 0), .c (.slice none 0 0), .c (.slice none 0 0), .c (.slice none 0 0)]), k ∈ ids) ∧
    Weak (viewA M (.g [.c (.slice none 0 0), .c (.slice none 0 0), .c (.slice none 0 0), .c (.slice none 0 0)])) (tv (frT [])) ∧ Under 0 (tv (frT [])) := arg_gw4 ⟨argC_nil, argC_nil, argC_nil, argC_nil, trivial⟩
theorem frT_Lt {l : List (List UInt8)} (h : (frs l).length ≤ 100000) : (frT l).Lt := ⟨h, by simp [frT], by simp [frT], by simp [frT]⟩
set_option maxHeartbeats 4000000 in
theorem saw_call : PCall Tryd.prog 16 [] (.c (.bool true)) := by
  obtain ⟨T0, hT0⟩ : ∃ t, t = frT [] := ⟨_, rfl⟩
  obtain ⟨T1, hT1⟩ : ∃ t, t = frT [[97]] := ⟨_, rfl⟩
  obtain ⟨T2, hT2⟩ : ∃ t, t = frT [[97], [98]] := ⟨_, rfl⟩
  obtain ⟨T3, hT3⟩ : ∃ t, t = frT [[99]] := ⟨_, rfl⟩
  have q1 : (frs [[97]]).length = 6 := by rw [frs_one, frL97]
  have q2 : (frs [[97], [98]]).length = 12 := by simp only [frs, List.length_append, frL97, List.length_nil]
  have q3 : (frs [[99]]).length = 6 := by rw [frs_one, frL97]
  have s0 : Smalls [] := fun p h => by cases h
  have s1 : Smalls [[97]] := fun p h => by rw [List.mem_singleton.1 h]; decide
  have s2 : Smalls [[97], [98]] := fun p h => by
    rcases List.mem_cons.1 h with rfl | h
    · decide
    · rw [List.mem_singleton.1 h]; decide
  have s3 : Smalls [[99]] := fun p h => by rw [List.mem_singleton.1 h]; decide
  have m1 := save_call T0 [97] 12 (by rw [hT0]; exact frT_Lt (by simp [frs])) (by decide)
  rw [hT0, savT s0 (by simp [frs]) (by simp [frs, frL97]), if_neg (by rw [frL97]; decide), if_neg (by rw [frL97]; simp [frs]), List.nil_append] at m1
  have m2 := save_call T1 [98] 12 (by rw [hT1]; exact frT_Lt (by omega)) (by decide)
  rw [hT1, savT s1 (by omega) (by rw [frL97]; omega), if_neg (by rw [frL97]; decide), if_neg (by rw [frL97, q1]; decide)] at m2
  have m3 := save_call T2 [99] 12 (by rw [hT2]; exact frT_Lt (by omega)) (by decide)
  rw [hT2, savT s2 (by omega) (by rw [frL97]; omega), if_neg (by rw [frL97]; decide), if_pos (by rw [frL97, q2]; decide)] at m3
  have m4 := has_call T3 (by rw [hT3]; exact frT_Lt (by omega))
  rw [hT3, frT_main s3] at m4
  have m5 := has_call T0 (by rw [hT0]; exact frT_Lt (by simp [frs]))
  rw [hT0, frT_main s0] at m5
  have e2 : ([[97]] ++ [[98]] : List (List UInt8)) = [[97], [98]] := rfl
  rw [e2] at m2
  rw [← hT1] at m1 m2
  rw [← hT2] at m2 m3
  rw [← hT3] at m3 m4
  rw [← hT0] at m1 m5
  unfold resV at m1 m2 m3
  dsimp only at m1 m2 m3
  have l2 : T2.a.length = 12 := by rw [hT2]; exact q2
  have l3 : T3.a.length = 6 := by rw [hT3]; exact q3
  have z0 : ∀ {M : Mem} {ids : List Nat}, _ := fun {M} {ids} => zeroT_arg (M := M) (ids := ids)
  rw [← hT0] at z0
  refine pcall_body tabOk Tryd.func16 rfl rfl (by rw [Tryd.ntmps16]; simp) ?_
  simp only [Tryd.ntmps16]
  obtain ⟨x3, hx3⟩ : ∃ x : List UInt8, x = [99] := ⟨_, rfl⟩
  change PCall _ _ _ (.t [Bs [99], .c (.bool true)]) at m4
  change PCall _ _ _ (.t [Bs [], .c (.bool false)]) at m5
  rw [← hx3] at m4
  have b1 : (x3 == [99]) = true := by rw [hx3]; rfl
  have b2 : decide ((T2.a.length : Int) = 12) = true := decide_eq_true (by omega)
  have b3 : decide ((T3.a.length : Int) = 6) = true := decide_eq_true (by omega)
  simp only [↓wt, wu, wk0, wk1, wk2, wk3, Nat.reduceAdd, Nat.reduceEqDiff, Nat.reduceLeDiff, Nat.reduceLT, Nat.reduceMul, Int.reduceLE, Int.reduceLT, Int.reduceEq, Int.reduceNe, wk4, laidS, keepS]
  refine ⟨pureB [97], ?_⟩
  refine icall_drop [] m1 ⟨z0, arg_l (pureB [97]), arg_c, trivial⟩ okR_res ?_
  simp only [↓wt, wu, wk0, wk1, wk2, wk3, Nat.reduceAdd, Nat.reduceEqDiff, Nat.reduceLeDiff, Nat.reduceLT, Nat.reduceMul, Int.reduceLE, Int.reduceLT, Int.reduceEq, Int.reduceNe, wk4, laidS, keepS, tv, TapeA, Bs]
  refine ⟨pureB [98], ?_⟩
  refine icall_drop [] m2 ⟨arg_tvE rfl rfl rfl rfl, arg_l (pureB [98]), arg_c, trivial⟩ okR_res ?_
  simp only [↓wt, wu, wk0, wk1, wk2, wk3, Nat.reduceAdd, Nat.reduceEqDiff, Nat.reduceLeDiff, Nat.reduceLT, Nat.reduceMul, Int.reduceLE, Int.reduceLT, Int.reduceEq, Int.reduceNe, wk4, laidS, keepS, tv, TapeA, Bs]
  refine ⟨pureB [99], ?_⟩
  refine icall_drop [] m3 ⟨arg_tvE rfl rfl rfl rfl, arg_l (pureB [99]), arg_c, trivial⟩ okR_res ?_
  simp only [↓wt, wu, wk0, wk1, wk2, wk3, Nat.reduceAdd, Nat.reduceEqDiff, Nat.reduceLeDiff, Nat.reduceLT, Nat.reduceMul, Int.reduceLE, Int.reduceLT, Int.reduceEq, Int.reduceNe, wk4, laidS, keepS, tv, TapeA, Bs]
  refine icall_drop [] m4 ⟨arg_tvE rfl rfl rfl rfl, trivial⟩ okR_has ?_
  simp only [↓wt, wu, wk0, wk1, wk2, wk3, Nat.reduceAdd, Nat.reduceEqDiff, Nat.reduceLeDiff, Nat.reduceLT, Nat.reduceMul, Int.reduceLE, Int.reduceLT, Int.reduceEq, Int.reduceNe, wk4, laidS, keepS, tv, TapeA, Bs]
  refine icall_drop [] m5 ⟨z0, trivial⟩ okR_has ?_
  simp (maxSteps := 10000000) only [↓wt, wu, wk0, wk1, wk2, wk3, Nat.reduceAdd, Nat.reduceEqDiff, Nat.reduceLeDiff, Nat.reduceLT, Nat.reduceMul, Int.reduceLE, Int.reduceLT, Int.reduceEq, Int.reduceNe, wk4, laidS, keepS, Bs, b1, b2, b3, Tryd.results16]
  exact exp_c
end Go.Ab
