/- Rows: joined, by the document. -/
import Derived.Test.YtblnakmeaokemabSh1
set_option linter.unusedSimpArgs false
set_option linter.unusedVariables false
set_option linter.constructorNameAsVariable false
set_option maxRecDepth 100000
namespace Go.Ab
open Go Go.Proofs

def rj_base (i u j v : Int) (o p : List Int) (x : AV) : List (Nat × Blk) :=
  [(0, ⟨49, 3, [RowA i u o]⟩), (1, ⟨49, 3, [RowA j v p]⟩), (2, ⟨49, 3, [.g [.c (.int .i64 0), .c (.int .i64 0), .c (.slice none 0 0)]]⟩), (3, ⟨49, 3, [.g [.c (.int .i64 (max i j)), .c (.int .i64 (max u v)), x]]⟩)]
def rj_slots (k : Nat) : Slots := [(2, .p 0 0 0 1), (3, .p 1 0 0 1), (4, .p 2 0 0 1), (5, .c (.bool false)), (6, .p 3 0 0 1), (7, .c (.int .i64 k))]
def rj_I (i u j v : Int) (o p : List Int) : Nat → ASt
  | 0 => ⟨rj_slots 0, ⟨rj_base i u j v o p (.c (.slice none 0 0)), 4⟩, 51⟩
  | k + 1 => ⟨rj_slots (k + 1), ⟨rj_base i u j v o p (.s 4 0 (k + 1)) ++ [(4, ⟨2, 1, ((List.zipWith max o p).take (k + 1)).map encI⟩)], 5⟩, 51⟩
theorem zip_take1 {o p : List Int} (h : 0 < o.length) (h' : 0 < p.length) : (List.zipWith max o p).take 1 = [max (o.getD 0 0) (p.getD 0 0)] := by
  match o, p, h, h' with
  | a :: o, b :: p, _, _ => simp
theorem zip_take {o p : List Int} {k : Nat} (h : k < o.length) (h' : k < p.length) : (List.zipWith max o p).take (k + 1) = (List.zipWith max o p).take k ++ [max (o.getD k 0) (p.getD k 0)] := by
  rw [List.take_add_one, List.getElem?_zipWith, List.getElem?_eq_getElem h, List.getElem?_eq_getElem h', List.getD_eq_getElem?_getD, List.getD_eq_getElem?_getD, List.getElem?_eq_getElem h, List.getElem?_eq_getElem h']
  rfl
theorem exp_row {M : Mem} {a b v : Value} {id n : Nat} {T : TypeId} {sz : Nat} {xs : List AV} (h : M.get id = some ⟨T, sz, xs⟩) (hn : n = xs.length) (hp : PureL xs) :
    Exp M (.t [.g [.c a, .c b, .s id 0 n], .c v]) (.t [.g [.c a, .c b, .l sz xs], .c v]) := by
  refine ⟨[], [id], ?_, by simp, by simp⟩
  have hc : ∀ z, ExpC M (.c z) (.c z) [] [] := fun z => expC_pure (.refl _) (.c _)
  refine ⟨[], [], [id], [], rfl, rfl, ⟨[], [], [], [id], rfl, rfl, hc _, [], [], [], [id], rfl, rfl, hc _, [], [], [id], [], rfl, rfl, ⟨rfl, rfl, _, h, by simpa using hn, rfl, by simp, hp⟩, rfl, rfl⟩, [], [], [], [], rfl, rfl, hc _, rfl, rfl⟩
theorem rjoin_call (i u j v : Int) (o p : List Int) (hl : o.length < 1000000000) : PCall Try.prog 46 [RowA i u o, RowA j v p]
    (if o.length = p.length then .t [RowA (max i j) (max u v) (List.zipWith max o p), .c (.bool true)] else .t [RowA 0 0 [], .c (.bool false)]) := by
  refine pcall_body tabOk Try.func46 rfl rfl (by rw [Try.ntmps46]; simp) ?_
  simp only [Try.ntmps46, RowA]
  cases f1 : decide ((o.length : Int) = (p.length : Int)) with
  | false =>
    have g1 : ¬ o.length = p.length := fun e => of_decide_eq_false f1 (by rw [e])
    rw [if_neg g1]
    simp only [↓wt, wu, wk0, wk1, wk2, wk3, Nat.reduceAdd, Nat.reduceEqDiff, Nat.reduceLeDiff, Nat.reduceLT, Nat.reduceMul, Int.reduceLE, Int.reduceLT, Int.reduceEq, Int.reduceNe, wk4, laidS, keepS, f1, Try.results46]
    exact exp_t ⟨⟨⟨.refl _, .refl _, trivial, trivial⟩, by simp [under_g, under_c, under_l, underL_nil]⟩, ⟨weak_c, .c _⟩, trivial⟩
  | true =>
    have g1 : o.length = p.length := by have := of_decide_eq_true f1; omega
    rw [if_pos g1]
    simp only [↓wt, wu, wk0, wk1, wk2, wk3, Nat.reduceAdd, Nat.reduceEqDiff, Nat.reduceLeDiff, Nat.reduceLT, Nat.reduceMul, Int.reduceLE, Int.reduceLT, Int.reduceEq, Int.reduceNe, wk4, laidS, keepS, f1, max_if]
    refine loop_rule' tabOk (rj_I i u j v o p) (fun k => k ≤ o.length) (fun k => o.length - k) 0 (Nat.zero_le _) ?_ ?_ ?_
    · simp only [↓wt, wu, wk0, wk1, wk2, wk3, wkf, Nat.reduceAdd, Nat.reduceEqDiff, Nat.reduceLeDiff, Nat.reduceLT, Nat.reduceMul, Int.reduceLE, Int.reduceLT, Int.reduceEq, Int.reduceNe, wk4, laidS, keepS, rj_I, rj_base, rj_slots, RowA]
    · intro k; cases k <;> simp [rj_I]
    · intro k hk
      cases k with
      | zero =>
        simp only [rj_I, rj_base, rj_slots, RowA]
        simp only [↓wt, wu, wk0, wk1, wk2, wk3, Nat.reduceAdd, Nat.reduceEqDiff, Nat.reduceLeDiff, Nat.reduceLT, Nat.reduceMul, Int.reduceLE, Int.reduceLT, Int.reduceEq, Int.reduceNe, wk4, laidS, keepS]
        refine r_casesP (fun hc => ?_) (fun hc => ?_)
        · simp only [↓wt, wu, wk0, wk1, wk2, wk3, Nat.reduceAdd, Nat.reduceEqDiff, Nat.reduceLeDiff, Nat.reduceLT, Nat.reduceMul, Int.reduceLE, Int.reduceLT, Int.reduceEq, Int.reduceNe, wk4, laidS, keepS]
          refine draw_rule tabOk mixed [0, 2, 0, 2, 0, 2, 2, 0, 2, 0, 2, 2, 0, 0, 1, 0, 1] [[], [0], [], [2], [], [2, 3, 4], [2, 3, 4, 5], [], [7], [], [7, 8, 9], [7, 8, 9, 10], [2, 3, 4, 5, 6, 7, 8, 9, 10, 11], [2, 3, 4, 5, 6, 7, 8, 9, 10, 11, 12], [0, 1, 2, 3, 4, 5, 6, 7, 8, 9, 10, 11, 12, 13], [0, 1, 2, 3, 4, 5, 6, 7, 8, 9, 10, 11, 12, 13, 14], [0, 1, 2, 3, 4, 5, 6, 7, 8, 9, 10, 11, 12, 13, 14, 15]] (by kernel_rfl) ?_
          simp only [↓wt, wu, wk0, wk1, wk2, wk3, Nat.reduceAdd, Nat.reduceEqDiff, Nat.reduceLeDiff, Nat.reduceLT, Nat.reduceMul, Int.reduceLE, Int.reduceLT, Int.reduceEq, Int.reduceNe, wk4, laidS, keepS, max_if]
          repeat (refine And.intro (by omega) ?_)
          refine d_heavyX (by simp only [↓wt, wu, wk0, wk1, wk2, wk3, Nat.reduceAdd, Nat.reduceEqDiff, Nat.reduceLeDiff, Nat.reduceLT, Nat.reduceMul, Int.reduceLE, Int.reduceLT, Int.reduceEq, Int.reduceNe, wk4, laidS, keepS]; exact ⟨rfl, rfl⟩) ?_
          simp only [↓wt, wu, wk0, wk1, wk2, wk3, Nat.reduceAdd, Nat.reduceEqDiff, Nat.reduceLeDiff, Nat.reduceLT, Nat.reduceMul, Int.reduceLE, Int.reduceLT, Int.reduceEq, Int.reduceNe, wk4, laidS, keepS, max_if]
          refine d_heavyX (by simp only [↓wt, wu, wk0, wk1, wk2, wk3, Nat.reduceAdd, Nat.reduceEqDiff, Nat.reduceLeDiff, Nat.reduceLT, Nat.reduceMul, Int.reduceLE, Int.reduceLT, Int.reduceEq, Int.reduceNe, wk4, laidS, keepS]; exact ⟨rfl, rfl⟩) ?_
          have e1 : IntKind.i64.wrap ((0 : Int) + 1) = 1 := by rw [wrap_i64 (by omega) (by omega)]; rfl
          simp only [↓wt, wu, wk0, wk1, wk2, wk3, Nat.reduceAdd, Nat.reduceEqDiff, Nat.reduceLeDiff, Nat.reduceLT, Nat.reduceMul, Int.reduceLE, Int.reduceLT, Int.reduceEq, Int.reduceNe, wk4, laidS, keepS, e1]
          refine ⟨1, by omega, by omega, ?_⟩
          have hz : (List.zipWith max o p).take 1 = [max (o.getD 0 0) (p.getD 0 0)] := zip_take1 (by omega) (by omega)
          simp only [↓wt, wu, wk0, wk1, wk2, wk3, wkf, Nat.reduceAdd, Nat.reduceEqDiff, Nat.reduceLeDiff, Nat.reduceLT, Nat.reduceMul, Int.reduceLE, Int.reduceLT, Int.reduceEq, Int.reduceNe, wk4, laidS, keepS, rj_I, rj_base, rj_slots, RowA, e1, hz]
        · have ho : o = [] := List.eq_nil_of_length_eq_zero (by omega)
          subst ho
          simp only [↓wt, wu, wk0, wk1, wk2, wk3, Nat.reduceAdd, Nat.reduceEqDiff, Nat.reduceLeDiff, Nat.reduceLT, Nat.reduceMul, Int.reduceLE, Int.reduceLT, Int.reduceEq, Int.reduceNe, wk4, laidS, keepS, Try.results46]
          exact exp_t ⟨⟨⟨.refl _, .refl _, trivial, trivial⟩, by simp [under_g, under_c, under_l, underL_nil]⟩, ⟨weak_c, .c _⟩, trivial⟩
      | succ k =>
        have hzl : (List.zipWith max o p).length = o.length := by simp [g1]
        have htl : ((List.zipWith max o p).take (k + 1)).length = k + 1 := by rw [List.length_take]; omega
        simp only [rj_I, rj_base, rj_slots, RowA, List.cons_append, List.nil_append]
        simp only [↓wt, wu, wk0, wk1, wk2, wk3, Nat.reduceAdd, Nat.reduceEqDiff, Nat.reduceLeDiff, Nat.reduceLT, Nat.reduceMul, Int.reduceLE, Int.reduceLT, Int.reduceEq, Int.reduceNe, wk4, laidS, keepS]
        refine r_casesP (fun hc => ?_) (fun hc => ?_)
        · simp only [↓wt, wu, wk0, wk1, wk2, wk3, Nat.reduceAdd, Nat.reduceEqDiff, Nat.reduceLeDiff, Nat.reduceLT, Nat.reduceMul, Int.reduceLE, Int.reduceLT, Int.reduceEq, Int.reduceNe, wk4, laidS, keepS]
          refine draw_rule tabOk mixed [0, 2, 0, 2, 0, 2, 2, 0, 2, 0, 2, 2, 0, 0, 1, 0, 1] [[], [0], [], [2], [], [2, 3, 4], [2, 3, 4, 5], [], [7], [], [7, 8, 9], [7, 8, 9, 10], [2, 3, 4, 5, 6, 7, 8, 9, 10, 11], [2, 3, 4, 5, 6, 7, 8, 9, 10, 11, 12], [0, 1, 2, 3, 4, 5, 6, 7, 8, 9, 10, 11, 12, 13], [0, 1, 2, 3, 4, 5, 6, 7, 8, 9, 10, 11, 12, 13, 14], [0, 1, 2, 3, 4, 5, 6, 7, 8, 9, 10, 11, 12, 13, 14, 15]] (by kernel_rfl) ?_
          simp only [↓wt, wu, wk0, wk1, wk2, wk3, Nat.reduceAdd, Nat.reduceEqDiff, Nat.reduceLeDiff, Nat.reduceLT, Nat.reduceMul, Int.reduceLE, Int.reduceLT, Int.reduceEq, Int.reduceNe, wk4, laidS, keepS, max_if]
          repeat (refine And.intro (by omega) ?_)
          refine d_heavyX (by simp only [↓wt, wu, wk0, wk1, wk2, wk3, Nat.reduceAdd, Nat.reduceEqDiff, Nat.reduceLeDiff, Nat.reduceLT, Nat.reduceMul, Int.reduceLE, Int.reduceLT, Int.reduceEq, Int.reduceNe, wk4, laidS, keepS, htl]; exact ⟨by omega, rfl, rfl⟩) ?_
          simp only [↓wt, wu, wk0, wk1, wk2, wk3, Nat.reduceAdd, Nat.reduceEqDiff, Nat.reduceLeDiff, Nat.reduceLT, Nat.reduceMul, Int.reduceLE, Int.reduceLT, Int.reduceEq, Int.reduceNe, wk4, laidS, keepS, max_if]
          refine d_heavyX (by simp only [↓wt, wu, wk0, wk1, wk2, wk3, Nat.reduceAdd, Nat.reduceEqDiff, Nat.reduceLeDiff, Nat.reduceLT, Nat.reduceMul, Int.reduceLE, Int.reduceLT, Int.reduceEq, Int.reduceNe, wk4, laidS, keepS]; exact ⟨rfl, rfl⟩) ?_
          have e1 : IntKind.i64.wrap (((k + 1 : Nat) : Int) + 1) = ((k + 2 : Nat) : Int) := by rw [wrap_i64 (by omega) (by omega)]; omega
          have hs : (List.zipWith max o p).take (k + 2) = (List.zipWith max o p).take (k + 1) ++ [max (o.getD (k + 1) 0) (p.getD (k + 1) 0)] := zip_take (by omega) (by omega)
          simp only [↓wt, wu, wk0, wk1, wk2, wk3, Nat.reduceAdd, Nat.reduceEqDiff, Nat.reduceLeDiff, Nat.reduceLT, Nat.reduceMul, Int.reduceLE, Int.reduceLT, Int.reduceEq, Int.reduceNe, wk4, laidS, keepS, e1]
          refine ⟨k + 2, by omega, by omega, ?_⟩
          simp only [↓wt, wu, wk0, wk1, wk2, wk3, wkf, Nat.reduceAdd, Nat.reduceEqDiff, Nat.reduceLeDiff, Nat.reduceLT, Nat.reduceMul, Int.reduceLE, Int.reduceLT, Int.reduceEq, Int.reduceNe, wk4, laidS, keepS, rj_I, rj_base, rj_slots, RowA, e1, hs]
          rw [List.map_append]; rfl
        · have hk' : k + 1 = o.length := by omega
          have ht : (List.zipWith max o p).take (k + 1) = List.zipWith max o p := List.take_of_length_le (by omega)
          simp only [↓wt, wu, wk0, wk1, wk2, wk3, Nat.reduceAdd, Nat.reduceEqDiff, Nat.reduceLeDiff, Nat.reduceLT, Nat.reduceMul, Int.reduceLE, Int.reduceLT, Int.reduceEq, Int.reduceNe, wk4, laidS, keepS, Try.results46, ht]
          exact exp_row rfl (by simp; omega) (pureI _)
end Go.Ab
