/- Audits: where all tell twice of the same books: walked. -/
import Derived.Test.YtblnakmeaokemadAd9
import Derived.Test.YtblnakmeaokemadAd8
set_option linter.unusedSimpArgs false
set_option linter.unusedVariables false
set_option linter.constructorNameAsVariable false
set_option maxRecDepth 100000
namespace Go.Ab
open Go Go.Proofs Go.RowKit

set_option maxHeartbeats 8000000 in
theorem most_law (c : Conf) (who t : Int) (l : List RowD) (hw : Wide l) : PCall Try.prog 8 [ConfA c, .c (.int .i64 who), .c (.int .i64 t), BooksV l] (.c (.bool true)) := by
  refine pcall_body tabOk Try.func8 rfl rfl (by rw [Try.ntmps8]; simp) ?_
  simp only [Try.ntmps8, ConfA, BooksV]
  simp only [↓wt, wu, wk0, wk1, wk2, wk3, Nat.reduceAdd, Nat.reduceEqDiff, Nat.reduceLeDiff, Nat.reduceLT, Nat.reduceMul, Int.reduceLE, Int.reduceLT, Int.reduceEq, Int.reduceNe, wk4, laidS, keepS]
  refine icall_drop [] awake15_call trivial (.c _) ?_
  simp only [↓wt, wu, wk0, wk1, wk2, wk3, Nat.reduceAdd, Nat.reduceEqDiff, Nat.reduceLeDiff, Nat.reduceLT, Nat.reduceMul, Int.reduceLE, Int.reduceLT, Int.reduceEq, Int.reduceNe, wk4, laidS, keepS]
  refine icall_drop [] (short_call l hw) ⟨arg_books, trivial⟩ (.c _) ?_
  simp only [↓wt, wu, wk0, wk1, wk2, wk3, Nat.reduceAdd, Nat.reduceEqDiff, Nat.reduceLeDiff, Nat.reduceLT, Nat.reduceMul, Int.reduceLE, Int.reduceLT, Int.reduceEq, Int.reduceNe, wk4, laidS, keepS]
  refine r_gcasesN (fun hs hb => ?_) (fun hs hb => ?_) <;> simp only [↓wt, wu, wk0, wk1, wk2, wk3, Nat.reduceAdd, Nat.reduceEqDiff, Nat.reduceLeDiff, Nat.reduceLT, Nat.reduceMul, Int.reduceLE, Int.reduceLT, Int.reduceEq, Int.reduceNe, wk4, laidS, keepS, hb]
  rotate_left
  · simp only [↓wt, wu, wk0, wk1, wk2, wk3, Nat.reduceAdd, Nat.reduceEqDiff, Nat.reduceLeDiff, Nat.reduceLT, Nat.reduceMul, Int.reduceLE, Int.reduceLT, Int.reduceEq, Int.reduceNe, wk4, laidS, keepS, Try.results8]
    exact exp_c
  have hrl : Lens l := short_lens hs
  refine icall_drop [] (rright_call c l hrl) ⟨arg_conf', arg_books, trivial⟩ (.c _) ?_
  simp only [↓wt, wu, wk0, wk1, wk2, wk3, Nat.reduceAdd, Nat.reduceEqDiff, Nat.reduceLeDiff, Nat.reduceLT, Nat.reduceMul, Int.reduceLE, Int.reduceLT, Int.reduceEq, Int.reduceNe, wk4, laidS, keepS]
  refine r_gcasesN (fun hr hb2 => ?_) (fun hr hb2 => ?_) <;> simp only [↓wt, wu, wk0, wk1, wk2, wk3, Nat.reduceAdd, Nat.reduceEqDiff, Nat.reduceLeDiff, Nat.reduceLT, Nat.reduceMul, Int.reduceLE, Int.reduceLT, Int.reduceEq, Int.reduceNe, wk4, laidS, keepS, hb2]
  rotate_left
  · simp only [↓wt, wu, wk0, wk1, wk2, wk3, Nat.reduceAdd, Nat.reduceEqDiff, Nat.reduceLeDiff, Nat.reduceLT, Nat.reduceMul, Int.reduceLE, Int.reduceLT, Int.reduceEq, Int.reduceNe, wk4, laidS, keepS, Try.results8]
    exact exp_c
  repeat' (first | (refine r_casesD (fun hp hb => ?_) (fun hp hb => ?_) <;> simp only [↓wt, wu, wk0, wk1, wk2, wk3, Nat.reduceAdd, Nat.reduceEqDiff, Nat.reduceLeDiff, Nat.reduceLT, Nat.reduceMul, Int.reduceLE, Int.reduceLT, Int.reduceEq, Int.reduceNe, wk4, laidS, keepS, Try.results8, hb]) | (refine r_casesN (fun hp hb => ?_) (fun hp hb => ?_) <;> simp only [↓wt, wu, wk0, wk1, wk2, wk3, Nat.reduceAdd, Nat.reduceEqDiff, Nat.reduceLeDiff, Nat.reduceLT, Nat.reduceMul, Int.reduceLE, Int.reduceLT, Int.reduceEq, Int.reduceNe, wk4, laidS, keepS, Try.results8, hb]) | (refine r_casesM (fun hp hb => ?_) (fun hp hb => ?_) <;> simp only [↓wt, wu, wk0, wk1, wk2, wk3, Nat.reduceAdd, Nat.reduceEqDiff, Nat.reduceLeDiff, Nat.reduceLT, Nat.reduceMul, Int.reduceLE, Int.reduceLT, Int.reduceEq, Int.reduceNe, wk4, laidS, keepS, Try.results8, hb]) | (refine r_casesB (fun hp hb => ?_) (fun hp hb => ?_) <;> simp only [↓wt, wu, wk0, wk1, wk2, wk3, Nat.reduceAdd, Nat.reduceEqDiff, Nat.reduceLeDiff, Nat.reduceLT, Nat.reduceMul, Int.reduceLE, Int.reduceLT, Int.reduceEq, Int.reduceNe, wk4, laidS, keepS, Try.results8, hb]) | (refine r_gcasesD (fun hp hb => ?_) (fun hp hb => ?_) <;> simp only [↓wt, wu, wk0, wk1, wk2, wk3, Nat.reduceAdd, Nat.reduceEqDiff, Nat.reduceLeDiff, Nat.reduceLT, Nat.reduceMul, Int.reduceLE, Int.reduceLT, Int.reduceEq, Int.reduceNe, wk4, laidS, keepS, Try.results8, hb]) | (refine r_gcasesN (fun hp hb => ?_) (fun hp hb => ?_) <;> simp only [↓wt, wu, wk0, wk1, wk2, wk3, Nat.reduceAdd, Nat.reduceEqDiff, Nat.reduceLeDiff, Nat.reduceLT, Nat.reduceMul, Int.reduceLE, Int.reduceLT, Int.reduceEq, Int.reduceNe, wk4, laidS, keepS, Try.results8, hb]) | (refine r_gcasesM (fun hp hb => ?_) (fun hp hb => ?_) <;> simp only [↓wt, wu, wk0, wk1, wk2, wk3, Nat.reduceAdd, Nat.reduceEqDiff, Nat.reduceLeDiff, Nat.reduceLT, Nat.reduceMul, Int.reduceLE, Int.reduceLT, Int.reduceEq, Int.reduceNe, wk4, laidS, keepS, Try.results8, hb]) | (refine r_gcasesB (fun hp hb => ?_) (fun hp hb => ?_) <;> simp only [↓wt, wu, wk0, wk1, wk2, wk3, Nat.reduceAdd, Nat.reduceEqDiff, Nat.reduceLeDiff, Nat.reduceLT, Nat.reduceMul, Int.reduceLE, Int.reduceLT, Int.reduceEq, Int.reduceNe, wk4, laidS, keepS, Try.results8, hb]) | ((with_reducible refine And.intro ?_ ?_); omega) | fail)
  all_goals try exact exp_c
  have hwho : 0 ≤ who ∧ who < c.n := by omega
  have ht : 1 ≤ t ∧ t ≤ 1125899906842624 := by omega
  have hn := hr.2.1.1
  have hmc := hr.1
  have h16 : c.n ≤ 16 := by have := hmc; unfold MayC at this; omega
  obtain ⟨a0, hb0, hI0⟩ := MostI.start hr hwho ht
  refine icall_drop [] (begin_call c who t) ⟨arg_conf', arg_c, arg_c, trivial⟩ okR_aud ?_
  rw [hb0]
  simp only [↓wt, wu, wk0, wk1, wk2, wk3, Nat.reduceAdd, Nat.reduceEqDiff, Nat.reduceLeDiff, Nat.reduceLT, Nat.reduceMul, Int.reduceLE, Int.reduceLT, Int.reduceEq, Int.reduceNe, wk4, laidS, keepS, AudV]
  refine loop_ruleM tabOk [1, 2, 3, 4, 9] (fun x : Nat × AudD => [(11, .c (.int .i64 x.1))]) (fun x => ⟨[(0, ⟨23, 6, [ConfA c]⟩), (1, ⟨61, 6, [AudV x.2]⟩)], 2⟩) (fun x => ((x.1 = 1 ∨ x.1 = 2) ∧ MostI c who t l x.1 0 x.2) ∨ (x.1 = 3 ∧ MostI c who t l 2 l.length x.2)) (fun x => 3 - x.1) (1, a0) (.inl ⟨.inl rfl, hI0⟩) (fun _ => rfl) ?_ ?_
  · simp only [↓wt, wu, wk0, wk1, wk2, wk3, wkf, Nat.reduceAdd, Nat.reduceEqDiff, Nat.reduceLeDiff, Nat.reduceLT, Nat.reduceMul, Int.reduceLE, Int.reduceLT, Int.reduceEq, Int.reduceNe, wk4, laidS, keepS, ConfA, AudV, underL_R, underL_O, underL_I]
    try trivial
  · rintro ⟨q, a⟩ hG
    dsimp only at hG
    simp only [↓wt, wu, wk0, wk1, wk2, wk3, Nat.reduceAdd, Nat.reduceEqDiff, Nat.reduceLeDiff, Nat.reduceLT, Nat.reduceMul, Int.reduceLE, Int.reduceLT, Int.reduceEq, Int.reduceNe, wk4, laidS, keepS, ConfA, AudV]
    rcases hG with ⟨hq, hI⟩ | ⟨hq, hI⟩
    · have f1 : decide ((q : Int) ≤ 2) = true := decide_eq_true (by omega)
      simp only [↓wt, wu, wk0, wk1, wk2, wk3, Nat.reduceAdd, Nat.reduceEqDiff, Nat.reduceLeDiff, Nat.reduceLT, Nat.reduceMul, Int.reduceLE, Int.reduceLT, Int.reduceEq, Int.reduceNe, wk4, laidS, keepS, f1, ConfA, AudV]
      refine loop_ruleM tabOk [1, 2, 3, 4, 9, 11] (fun y : Nat × AudD => [(12, .c (.int .i64 y.1))]) (fun y => ⟨[(0, ⟨23, 6, [ConfA c]⟩), (1, ⟨61, 6, [AudV y.2]⟩)], 2⟩) (fun y => y.1 ≤ l.length ∧ MostI c who t l q y.1 y.2) (fun y => l.length - y.1) (0, a) ⟨by omega, hI⟩ (fun _ => rfl) ?_ ?_
      · simp only [↓wt, wu, wk0, wk1, wk2, wk3, wkf, Nat.reduceAdd, Nat.reduceEqDiff, Nat.reduceLeDiff, Nat.reduceLT, Nat.reduceMul, Int.reduceLE, Int.reduceLT, Int.reduceEq, Int.reduceNe, wk4, laidS, keepS, ConfA, AudV, underL_R, underL_O, underL_I]
        try trivial
      · rintro ⟨k, b⟩ ⟨hk, hJ⟩
        dsimp only at hk hJ
        simp only [↓wt, wu, wk0, wk1, wk2, wk3, Nat.reduceAdd, Nat.reduceEqDiff, Nat.reduceLeDiff, Nat.reduceLT, Nat.reduceMul, Int.reduceLE, Int.reduceLT, Int.reduceEq, Int.reduceNe, wk4, laidS, keepS, ConfA, AudV]
        refine r_casesD (fun hp4 hb4 => ?_) (fun hp4 hb4 => ?_) <;> simp only [↓wt, wu, wk0, wk1, wk2, wk3, Nat.reduceAdd, Nat.reduceEqDiff, Nat.reduceLeDiff, Nat.reduceLT, Nat.reduceMul, Int.reduceLE, Int.reduceLT, Int.reduceEq, Int.reduceNe, wk4, laidS, keepS, hb4]
        · have hkl : k < l.length := by omega
          have e3 := wi_succ (k := k) (by omega)
          by_cases hkw : (k : Int) = who
          · have f2 : decide ((k : Int) = who) = true := decide_eq_true hkw
            simp only [↓wt, wu, wk0, wk1, wk2, wk3, Nat.reduceAdd, Nat.reduceEqDiff, Nat.reduceLeDiff, Nat.reduceLT, Nat.reduceMul, Int.reduceLE, Int.reduceLT, Int.reduceEq, Int.reduceNe, wk4, laidS, keepS, f2]
            refine ⟨(k + 1, b), ⟨by omega, hJ.skip hkw⟩, by show l.length - (k + 1) < l.length - k; omega, ?_⟩
            simp only [↓wt, wu, wk0, wk1, wk2, wk3, wkf, Nat.reduceAdd, Nat.reduceEqDiff, Nat.reduceLeDiff, Nat.reduceLT, Nat.reduceMul, Int.reduceLE, Int.reduceLT, Int.reduceEq, Int.reduceNe, wk4, laidS, keepS, e3, ConfA, AudV, underL_R, underL_O, underL_I]
            try trivial
          · have f2 : decide ((k : Int) = who) = false := decide_eq_false hkw
            simp only [↓wt, wu, wk0, wk1, wk2, wk3, Nat.reduceAdd, Nat.reduceEqDiff, Nat.reduceLeDiff, Nat.reduceLT, Nat.reduceMul, Int.reduceLE, Int.reduceLT, Int.reduceEq, Int.reduceNe, wk4, laidS, keepS, f2]
            refine make_same (.inl rfl) (by omega) (by dsimp only; omega) (by omega) ?_
            have eR : List.replicate c.n.toNat (AV.g [.c (.int .i64 0), .c (.int .i64 0)]) = (List.replicate c.n.toNat ((0 : Int), (0 : Int))).map LookV := by rw [List.map_replicate]; rfl
            have hlk : ∀ j, lookAt (List.replicate c.n.toNat ((0 : Int), (0 : Int))) j = (0, 0) := fun j => getD_repA
            have hset : ∀ x y : Int, ((List.replicate c.n.toNat ((0 : Int), (0 : Int))).map LookV).set who.toNat (.g [.c (.int .i64 x), .c (.int .i64 y)]) = ((List.replicate c.n.toNat ((0 : Int), (0 : Int))).set who.toNat (x, y)).map LookV := fun x y => by rw [List.map_set]; rfl
            simp only [↓wt, wu, wk0, wk1, wk2, wk3, Nat.reduceAdd, Nat.reduceEqDiff, Nat.reduceLeDiff, Nat.reduceLT, Nat.reduceMul, Int.reduceLE, Int.reduceLT, Int.reduceEq, Int.reduceNe, wk4, laidS, keepS, Cell, List.length_set, List.length_replicate, eR, elem_K, LookV_eq, hlk, hset]
            repeat (refine And.intro (by omega) ?_)
            have m1 := tell_call c who b (mostM c who t q l k) (hJ.lenA hrl) hrl (by simp [mostM]; omega)
            rw [hJ.tell hr hkl hwho hkw ht (by omega)] at m1
            have hK := hJ.step hr hkl hkw (by omega)
            have hnn : c.n.toNat = ((List.replicate c.n.toNat ((0 : Int), (0 : Int))).set who.toNat (t, (q : Int))).length := by simp
            refine icall_drop [2] m1 ⟨arg_conf', arg_c, arg_aud, arg_gL ⟨argC_c, argC_c, argC_c, argC_l (pureR _), argC_c, argC_c, argC_c, argC_c, argC_c, argC_c, argC_own (by simp) rfl (by simp [mostM]) (pureK _), trivial⟩, trivial⟩ okR_aud ?_
            simp only [↓wt, wu, wk0, wk1, wk2, wk3, Nat.reduceAdd, Nat.reduceEqDiff, Nat.reduceLeDiff, Nat.reduceLT, Nat.reduceMul, Int.reduceLE, Int.reduceLT, Int.reduceEq, Int.reduceNe, wk4, laidS, keepS, AudV]
            refine ⟨(k + 1, toldD b k (rowAt l k)), ⟨by omega, hK⟩, by show l.length - (k + 1) < l.length - k; omega, ?_⟩
            simp only [↓wt, wu, wk0, wk1, wk2, wk3, wkf, Nat.reduceAdd, Nat.reduceEqDiff, Nat.reduceLeDiff, Nat.reduceLT, Nat.reduceMul, Int.reduceLE, Int.reduceLT, Int.reduceEq, Int.reduceNe, wk4, laidS, keepS, e3, ConfA, AudV, underL_R, underL_O, underL_I]
            try trivial
        · have hk2 : k = l.length := by omega
          subst hk2
          have m2 := next_call c who b l (hJ.lenA hrl) hrl
          rcases hq with hq | hq
          · subst hq
            obtain ⟨b2, hb2', hK⟩ := hJ.next1 hr hwho ht
            rw [hb2'] at m2
            refine icall_drop [] m2 ⟨arg_conf', arg_c, arg_aud, arg_books, trivial⟩ okR_aud ?_
            simp only [↓wt, wu, wk0, wk1, wk2, wk3, Nat.reduceAdd, Nat.reduceEqDiff, Nat.reduceLeDiff, Nat.reduceLT, Nat.reduceMul, Int.reduceLE, Int.reduceLT, Int.reduceEq, Int.reduceNe, wk4, laidS, keepS, AudV]
            have m3 := rmaya_call c who b2 (hK.lenA hrl)
            rw [decide_eq_true (hK.may hr hwho ht (.inr rfl))] at m3
            refine icall_drop [] m3 ⟨arg_conf', arg_c, arg_aud, trivial⟩ (.c _) ?_
            simp only [↓wt, wu, wk0, wk1, wk2, wk3, Nat.reduceAdd, Nat.reduceEqDiff, Nat.reduceLeDiff, Nat.reduceLT, Nat.reduceMul, Int.reduceLE, Int.reduceLT, Int.reduceEq, Int.reduceNe, wk4, laidS, keepS]
            refine ⟨(2, b2), .inl ⟨.inr rfl, hK⟩, by show 3 - 2 < 3 - 1; decide, ?_⟩
            simp only [↓wt, wu, wk0, wk1, wk2, wk3, wkf, Nat.reduceAdd, Nat.reduceEqDiff, Nat.reduceLeDiff, Nat.reduceLT, Nat.reduceMul, Int.reduceLE, Int.reduceLT, Int.reduceEq, Int.reduceNe, wk4, laidS, keepS, ConfA, AudV, underL_R, underL_O, underL_I]
            try trivial
          · subst hq
            rw [hJ.next2 hr hwho ht] at m2
            refine icall_drop [] m2 ⟨arg_conf', arg_c, arg_aud, arg_books, trivial⟩ okR_aud ?_
            simp only [↓wt, wu, wk0, wk1, wk2, wk3, Nat.reduceAdd, Nat.reduceEqDiff, Nat.reduceLeDiff, Nat.reduceLT, Nat.reduceMul, Int.reduceLE, Int.reduceLT, Int.reduceEq, Int.reduceNe, wk4, laidS, keepS, AudV]
            have m3 := rmaya_call c who b (hJ.lenA hrl)
            rw [decide_eq_true (hJ.may hr hwho ht (.inr rfl))] at m3
            refine icall_drop [] m3 ⟨arg_conf', arg_c, arg_aud, trivial⟩ (.c _) ?_
            simp only [↓wt, wu, wk0, wk1, wk2, wk3, Nat.reduceAdd, Nat.reduceEqDiff, Nat.reduceLeDiff, Nat.reduceLT, Nat.reduceMul, Int.reduceLE, Int.reduceLT, Int.reduceEq, Int.reduceNe, wk4, laidS, keepS]
            refine ⟨(3, b), .inr ⟨rfl, hJ⟩, by show 3 - 3 < 3 - 2; decide, ?_⟩
            simp only [↓wt, wu, wk0, wk1, wk2, wk3, wkf, Nat.reduceAdd, Nat.reduceEqDiff, Nat.reduceLeDiff, Nat.reduceLT, Nat.reduceMul, Int.reduceLE, Int.reduceLT, Int.reduceEq, Int.reduceNe, wk4, laidS, keepS, ConfA, AudV, underL_R, underL_O, underL_I]
            try trivial
    · have f1 : decide ((q : Int) ≤ 2) = false := decide_eq_false (by omega)
      simp only [↓wt, wu, wk0, wk1, wk2, wk3, Nat.reduceAdd, Nat.reduceEqDiff, Nat.reduceLeDiff, Nat.reduceLT, Nat.reduceMul, Int.reduceLE, Int.reduceLT, Int.reduceEq, Int.reduceNe, wk4, laidS, keepS, f1, ConfA, AudV]
      have m1 := ends_call c who a l (hI.lenA hrl) hrl
      rw [hI.ends hr hwho ht] at m1
      refine icall_drop [] m1 ⟨arg_conf', arg_c, arg_aud, arg_books, trivial⟩ ⟨.c _, .c _, .c _, trivial⟩ ?_
      simp only [↓wt, wu, wk0, wk1, wk2, wk3, Nat.reduceAdd, Nat.reduceEqDiff, Nat.reduceLeDiff, Nat.reduceLT, Nat.reduceMul, Int.reduceLE, Int.reduceLT, Int.reduceEq, Int.reduceNe, wk4, laidS, keepS]
      refine icall_drop [] (rvalue_call c l hrl) ⟨arg_conf', arg_books, trivial⟩ (.c _) ?_
      simp only [↓wt, wu, wk0, wk1, wk2, wk3, Nat.reduceAdd, Nat.reduceEqDiff, Nat.reduceLeDiff, Nat.reduceLT, Nat.reduceMul, Int.reduceLE, Int.reduceLT, Int.reduceEq, Int.reduceNe, wk4, laidS, keepS, Try.results8]
      exact exp_c
end Go.Ab
