/- Rows: joined, by the program: the walk. -/
import Derived.Test.YtblnakmeaokemabSh8
set_option linter.unusedSimpArgs false
set_option linter.unusedVariables false
set_option linter.constructorNameAsVariable false
set_option maxRecDepth 100000
namespace Go.Ab
open Go Go.Proofs Go.RowKit

theorem arg_row {M : Mem} {ids : List Nat} {i u : Int} {o : List Int} : VOkA M (RowA i u o) ∧ (∀ k ∈ idsA (RowA i u o), k ∈ ids) ∧ Weak (viewA M (RowA i u o)) (RowA i u o) ∧ Under 0 (RowA i u o) :=
  ⟨⟨trivial, trivial, trivial, trivial⟩, (fun i h => by simp [RowA, idsA, idsC] at h), by show WeakL _ _; exact .refl _, .g _ fun j hj => by
    match j, hj with
    | 0, _ => exact .c _
    | 1, _ => exact .c _
    | 2, _ => exact .l _ _ (by rw [← UnderL, underL_I]; trivial)⟩
theorem okR_rowf {i u j v : Int} {o p : List Int} {f : FuncId} : OkR (Under 0) (.f f [RowE i u o, RowE j v p]) := .f _ _ fun k hk => by
  match k, hk with
  | 0, _ => exact under_row
  | 1, _ => exact under_row
def maxP (pre : List (Int × Int)) : List Int := pre.map fun x => max x.1 x.2
def jn_base (i u j v : Int) (o p : List Int) (x : AV) : List (Nat × Blk) :=
  [(0, ⟨49, 3, [RowA i u o]⟩), (1, ⟨49, 3, [RowA j v p]⟩), (2, ⟨49, 3, [.g [.c (.int .i64 0), .c (.int .i64 0), .c (.slice none 0 0)]]⟩), (3, ⟨47, 1, [x]⟩)]
def jn_I (i u j v : Int) (o p : List Int) : List (Int × Int) → Mem
  | [] => ⟨jn_base i u j v o p (.c (.slice none 0 0)), 4⟩
  | x :: xs => ⟨jn_base i u j v o p (.s 5 0 (xs.length + 1)) ++ [(5, ⟨2, 1, (maxP (x :: xs)).map encI⟩)], 6⟩
theorem exp_row' {M : Mem} {a b v : Value} {id off n : Nat} {T : TypeId} {sz : Nat} {xs ys : List AV} (h : M.get id = some ⟨T, sz, ys⟩) (hn : off + n = ys.length) (hd : ys.drop off = xs) (hp : PureL ys) :
    Exp M (.t [.g [.c a, .c b, .s id off n], .c v]) (.t [.g [.c a, .c b, .l sz xs], .c v]) := by
  refine ⟨[], [id], ?_, by simp, by simp⟩
  have hc : ∀ z, ExpC M (.c z) (.c z) [] [] := fun z => expC_pure (.refl _) (.c _)
  refine ⟨[], [], [id], [], rfl, rfl, ⟨[], [], [], [id], rfl, rfl, hc _, [], [], [], [id], rfl, rfl, hc _, [], [], [id], [], rfl, rfl, ⟨rfl, rfl, _, h, by simpa using hn, rfl, hd, hp⟩, rfl, rfl⟩, [], [], [], [], rfl, rfl, hc _, rfl, rfl⟩
theorem join_call (i u j v : Int) (o p : List Int) (hl : o.length < 1000000000) : PCall Try.prog 45 [RowA i u o, RowA j v p]
    (if o.length = p.length then .t [RowA (max i j) (max u v) (List.zipWith max o p), .c (.bool true)] else .t [RowA 0 0 [], .c (.bool false)]) := by
  refine pcall_body1 tabOk Try.func45 rfl rfl (by rw [Try.ntmps45]; simp) ?_
  simp only [Try.ntmps45, RowA]
  cases f1 : decide ((o.length : Int) = (p.length : Int)) with
  | false =>
    have g1 : ¬ o.length = p.length := fun e => of_decide_eq_false f1 (by rw [e])
    rw [if_neg g1]
    simp only [↓wt, wu, wk0, wk1, wk2, wk3, Nat.reduceAdd, Nat.reduceEqDiff, Nat.reduceLeDiff, Nat.reduceLT, Nat.reduceMul, Int.reduceLE, Int.reduceLT, Int.reduceEq, Int.reduceNe, wk4, laidS, keepS, f1, Try.results45]
    exact exp_t ⟨⟨⟨.refl _, .refl _, trivial, trivial⟩, by simp [under_g, under_c, under_l, underL_nil]⟩, ⟨weak_c, .c _⟩, trivial⟩
  | true =>
    have g1 : o.length = p.length := by have := of_decide_eq_true f1; omega
    rw [if_pos g1]
    simp only [↓wt, wu, wk0, wk1, wk2, wk3, Nat.reduceAdd, Nat.reduceEqDiff, Nat.reduceLeDiff, Nat.reduceLT, Nat.reduceMul, Int.reduceLE, Int.reduceLT, Int.reduceEq, Int.reduceNe, wk4, laidS, keepS, f1]
    refine icall_drop [] (pairs_call i u j v o p) ⟨arg_row, arg_row, trivial⟩ okR_rowf ?_
    simp only [↓wt, wu, wk0, wk1, wk2, wk3, Nat.reduceAdd, Nat.reduceEqDiff, Nat.reduceLeDiff, Nat.reduceLT, Nat.reduceMul, Int.reduceLE, Int.reduceLT, Int.reduceEq, Int.reduceNe, wk4, laidS, keepS]
    refine range_rule tabOk (gf := 56) (caps := [RowE i u o, RowE j v p]) rfl (enters_of Try.func56 (by kernel_rfl) rfl) (encs := encL) (fun _ => rfl) (fun x z hz => by
      simp only [encL, List.mem_cons, List.not_mem_nil, or_false] at hz
      rcases hz with rfl | rfl <;> rfl) (by simp) (pairs_seq g1 hl) (jn_I i u j v o p) (fun xs => by cases xs <;> simp [jn_I]) ?_ ?_ ?_
    · simp only [↓wt, wu, wk0, wk1, wk2, wk3, wkf, Nat.reduceAdd, Nat.reduceEqDiff, Nat.reduceLeDiff, Nat.reduceLT, Nat.reduceMul, Int.reduceLE, Int.reduceLT, Int.reduceEq, Int.reduceNe, wk4, laidS, keepS, jn_I, jn_base, RowA]
    · intro pre x hlen
      cases pre with
      | nil =>
        simp only [jn_I, jn_base, RowA, List.nil_append]
        simp only [↓wt, wu, wk0, wk1, wk2, wk3, Nat.reduceAdd, Nat.reduceEqDiff, Nat.reduceLeDiff, Nat.reduceLT, Nat.reduceMul, Int.reduceLE, Int.reduceLT, Int.reduceEq, Int.reduceNe, wk4, laidS, keepS, setPs, encL, rndK, max_if]
        simp only [↓wt, wu, wk0, wk1, wk2, wk3, wkf, Nat.reduceAdd, Nat.reduceEqDiff, Nat.reduceLeDiff, Nat.reduceLT, Nat.reduceMul, Int.reduceLE, Int.reduceLT, Int.reduceEq, Int.reduceNe, wk4, laidS, keepS, jn_I, jn_base, RowA, maxP, encI]
      | cons y pre =>
        have hpl : (maxP (y :: pre)).length = pre.length + 1 := by simp [maxP]
        simp only [List.length_cons] at hlen
        simp only [jn_I, jn_base, RowA, List.cons_append, List.nil_append]
        simp only [↓wt, wu, wk0, wk1, wk2, wk3, Nat.reduceAdd, Nat.reduceEqDiff, Nat.reduceLeDiff, Nat.reduceLT, Nat.reduceMul, Int.reduceLE, Int.reduceLT, Int.reduceEq, Int.reduceNe, wk4, laidS, keepS, setPs, encL, rndK, max_if, hpl]
        repeat (refine And.intro (by omega) ?_)
        simp only [↓wt, wu, wk0, wk1, wk2, wk3, wkf, Nat.reduceAdd, Nat.reduceEqDiff, Nat.reduceLeDiff, Nat.reduceLT, Nat.reduceMul, Int.reduceLE, Int.reduceLT, Int.reduceEq, Int.reduceNe, wk4, laidS, keepS, jn_I, jn_base, RowA]
        simp [maxP, encI]
    · rintro xs rfl
      have hzl : (List.zipWith max o p).length = o.length := by simp; omega
      have hm : maxP (prs i u j v o p o.length) = max i j :: max u v :: List.zipWith max o p := by
        have ht : (o.zip p).take o.length = o.zip p := List.take_of_length_le (by simp; omega)
        simp only [prs, ht, maxP, List.map_cons, List.map_zip_eq_zipWith]
        rfl
      have hpl : (((u, v) :: (o.zip p).take o.length).length + 1 : Nat) = o.length + 2 := by simp; omega
      unfold prs at hm ⊢
      simp only [jn_I, jn_base, hm, hpl, RowA, List.cons_append, List.nil_append, List.map_cons]
      simp only [↓wt, wu, wk0, wk1, wk2, wk3, Nat.reduceAdd, Nat.reduceEqDiff, Nat.reduceLeDiff, Nat.reduceLT, Nat.reduceMul, Int.reduceLE, Int.reduceLT, Int.reduceEq, Int.reduceNe, wk4, laidS, keepS]
      have t1 : Int.toNat 1 = 1 := rfl
      have t2 : Int.toNat 2 = 2 := rfl
      refine freeze_rule 5 [4, 5, 6] ?_ ?_ ?_
      · simp only [↓wt, wu, wk0, wk1, wk2, wk3, Nat.reduceAdd, Nat.reduceEqDiff, Nat.reduceLeDiff, Nat.reduceLT, Nat.reduceMul, Int.reduceLE, Int.reduceLT, Int.reduceEq, Int.reduceNe, wk4, laidS, keepS]
        exact fun _ => ⟨by omega, by simp only [pureL_eq, underL_cons, underL_I, AV.cells, under_c, List.mem_singleton, forall_eq, and_self]⟩
      · simp only [↓wt, wu, wk0, wk1, wk2, wk3, Nat.reduceAdd, Nat.reduceEqDiff, Nat.reduceLeDiff, Nat.reduceLT, Nat.reduceMul, Int.reduceLE, Int.reduceLT, Int.reduceEq, Int.reduceNe, wk4, laidS, keepS]
      simp only [↓wt, wu, wk0, wk1, wk2, wk3, Nat.reduceAdd, Nat.reduceEqDiff, Nat.reduceLeDiff, Nat.reduceLT, Nat.reduceMul, Int.reduceLE, Int.reduceLT, Int.reduceEq, Int.reduceNe, wk4, laidS, keepS]
      refine freeze_rule 3 [4, 5, 6] ?_ ?_ ?_
      · simp only [↓wt, wu, wk0, wk1, wk2, wk3, Nat.reduceAdd, Nat.reduceEqDiff, Nat.reduceLeDiff, Nat.reduceLT, Nat.reduceMul, Int.reduceLE, Int.reduceLT, Int.reduceEq, Int.reduceNe, wk4, laidS, keepS]
      · simp only [↓wt, wu, wk0, wk1, wk2, wk3, Nat.reduceAdd, Nat.reduceEqDiff, Nat.reduceLeDiff, Nat.reduceLT, Nat.reduceMul, Int.reduceLE, Int.reduceLT, Int.reduceEq, Int.reduceNe, wk4, laidS, keepS]
        exact fun _ => by simp only [pureL_eq, underL_cons, underL_I, underL_nil, AV.cells, under_c, under_l, List.mem_singleton, forall_eq, and_self]
      simp only [↓wt, wu, wk0, wk1, wk2, wk3, Nat.reduceAdd, Nat.reduceEqDiff, Nat.reduceLeDiff, Nat.reduceLT, Nat.reduceMul, Int.reduceLE, Int.reduceLT, Int.reduceEq, Int.reduceNe, wk4, laidS, keepS]
      refine draw_rule tabOk mixed [0, 0, 0, 0, 0, 0, 0, 0, 0, 1, 0, 1, 0, 1] [[], [0], [0, 1], [], [3], [3, 4], [], [6], [0, 1, 2], [0, 1, 2, 8], [0, 1, 2, 3, 4, 5, 8, 9], [0, 1, 2, 3, 4, 5, 8, 9, 10], [0, 1, 2, 3, 4, 5, 6, 7, 8, 9, 10, 11], [0, 1, 2, 3, 4, 5, 6, 7, 8, 9, 10, 11, 12]] (by kernel_rfl) ?_
      have htk : List.take ((List.zipWith max o p).length + 1 + 1 - 2) (List.zipWith max o p) = List.zipWith max o p := List.take_of_length_le (by omega)
      simp only [↓wt, wu, wk0, wk1, wk2, wk3, Nat.reduceAdd, Nat.reduceEqDiff, Nat.reduceLeDiff, Nat.reduceLT, Nat.reduceMul, Int.reduceLE, Int.reduceLT, Int.reduceEq, Int.reduceNe, wk4, laidS, keepS, t1, t2, htk]
      repeat (refine And.intro (by omega) ?_)
      refine d_heavyX (by simp only [↓wt, wu, wk0, wk1, wk2, wk3, Nat.reduceAdd, Nat.reduceEqDiff, Nat.reduceLeDiff, Nat.reduceLT, Nat.reduceMul, Int.reduceLE, Int.reduceLT, Int.reduceEq, Int.reduceNe, wk4, laidS, keepS]; exact ⟨rfl, rfl⟩) ?_
      simp only [↓wt, wu, wk0, wk1, wk2, wk3, Nat.reduceAdd, Nat.reduceEqDiff, Nat.reduceLeDiff, Nat.reduceLT, Nat.reduceMul, Int.reduceLE, Int.reduceLT, Int.reduceEq, Int.reduceNe, wk4, laidS, keepS]
      refine d_heavyX (by simp only [↓wt, wu, wk0, wk1, wk2, wk3, Nat.reduceAdd, Nat.reduceEqDiff, Nat.reduceLeDiff, Nat.reduceLT, Nat.reduceMul, Int.reduceLE, Int.reduceLT, Int.reduceEq, Int.reduceNe, wk4, laidS, keepS]; exact ⟨rfl, rfl⟩) ?_
      simp only [↓wt, wu, wk0, wk1, wk2, wk3, Nat.reduceAdd, Nat.reduceEqDiff, Nat.reduceLeDiff, Nat.reduceLT, Nat.reduceMul, Int.reduceLE, Int.reduceLT, Int.reduceEq, Int.reduceNe, wk4, laidS, keepS]
      refine d_heavyX (by simp only [↓wt, wu, wk0, wk1, wk2, wk3, Nat.reduceAdd, Nat.reduceEqDiff, Nat.reduceLeDiff, Nat.reduceLT, Nat.reduceMul, Int.reduceLE, Int.reduceLT, Int.reduceEq, Int.reduceNe, wk4, laidS, keepS]; exact ⟨rfl, rfl⟩) ?_
      simp only [↓wt, wu, wk0, wk1, wk2, wk3, Nat.reduceAdd, Nat.reduceEqDiff, Nat.reduceLeDiff, Nat.reduceLT, Nat.reduceMul, Int.reduceLE, Int.reduceLT, Int.reduceEq, Int.reduceNe, wk4, laidS, keepS, Try.results45]
      exact exp_self (by simp only [under_t, under_g, under_c, under_l, underL_I, List.mem_cons, List.not_mem_nil, or_false, forall_eq_or_imp, forall_eq, and_self])
end Go.Ab
