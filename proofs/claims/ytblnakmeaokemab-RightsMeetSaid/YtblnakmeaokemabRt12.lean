/- Rights: awake. -/
import Derived.Test.YtblnakmeaokemabRt11
set_option linter.unusedSimpArgs false
set_option linter.unusedVariables false
set_option linter.constructorNameAsVariable false
set_option maxRecDepth 100000
namespace Go.Ab
open Go Go.Proofs Go.RowKit

def c0 : Conf := ⟨3, 1, 0, 1, 7, 5⟩
def l0 : List RowD := [⟨0, 0, [0, 0, 0]⟩, ⟨0, 0, [0, 0, 0]⟩, ⟨0, 0, [0, 0, 0]⟩]
def l1 : List RowD := [⟨0, 0, [0, 0, 3]⟩, ⟨0, 0, [0, 0, 0]⟩, ⟨0, 0, [0, 0, 0]⟩]
theorem c0_new : newB c0 = l0 := by decide +kernel
theorem c0_s0 : shareC c0 0 = 3 := by decide +kernel
theorem c0_s2 : shareC c0 2 = 2 := by decide +kernel
theorem c0_val : valC c0 l0 = 7 := by decide +kernel
theorem c0_move : moveR c0 l0 0 2 3 = (l1, 0) := by decide +kernel
theorem c0_take : takeR c0 l0 0 4 = ([], 7) := by decide +kernel
theorem c0_o2 : ofR c0 l1 2 = 5 := by decide +kernel
theorem c0_o0 : ofR c0 l1 0 = 0 := by decide +kernel
theorem lens_dec {l : List RowD} (h : l.length < 1000 ∧ ∀ r ∈ l, r.o.length < 1000) : Lens l := by
  refine ⟨by omega, fun k => ?_⟩
  by_cases hk : k < l.length
  · have := h.2 _ (List.getElem_mem hk)
    rw [rowAt, List.getD_eq_getElem?_getD, List.getElem?_eq_getElem hk, Option.getD_some]; omega
  · rw [rowAt_ge (by omega)]; simp
theorem l0_lens : Lens l0 := lens_dec (by decide)
theorem l1_lens : Lens l1 := lens_dec (by decide)
theorem okR_books {l : List RowD} : OkR (Under 0) (.l 3 (l.map RowV)) := .l _ _ (pureR l)
theorem okR_booksC {l : List RowD} {v : Value} : OkR (Under 0) (.t [.l 3 (l.map RowV), .c v]) := ⟨okR_books, .c _, trivial⟩
theorem arg_c0 {M : Mem} {ids : List Nat} : VOkA M (.g [.c (.int .i64 3), .c (.int .i64 1), .c (.int .i64 0), .c (.int .i64 1), .c (.int .i64 7), .c (.int .i64 5)]) ∧ (∀ k ∈ idsA (.g [.c (.int .i64 3), .c (.int .i64 1), .c (.int .i64 0), .c (.int .i64 1), .c (.int .i64 7), .c (.int .i64 5)]), k ∈ ids) ∧ Weak (viewA M (.g [.c (.int .i64 3), .c (.int .i64 1), .c (.int .i64 0), .c (.int .i64 1), .c (.int .i64 7), .c (.int .i64 5)])) (ConfA c0) ∧ Under 0 (ConfA c0) := arg_conf' (c := c0)
theorem awake_call : PCall Try.prog 9 [] (.c (.bool true)) := by
  have m1 := new_call c0
  rw [c0_new] at m1
  have m2 := share_call c0 0
  rw [c0_s0] at m2
  have m3 := share_call c0 2
  rw [c0_s2] at m3
  have m4 := value_call c0 l0 l0_lens
  rw [c0_val] at m4
  have m5 := move_call c0 l0 0 2 3 l0_lens
  rw [c0_move] at m5
  have m6 := take_call c0 l0 0 4 l0_lens
  rw [c0_take] at m6
  have m7 := Of_call c0 l1 2 l1_lens
  rw [c0_o2] at m7
  have m8 := Of_call c0 l1 0 l1_lens
  rw [c0_o0] at m8
  have hl : l0.length = 3 := rfl
  refine pcall_body tabOk Try.func9 rfl rfl (by rw [Try.ntmps9]; simp) ?_
  simp only [Try.ntmps9]
  simp only [↓wt, wu, wk0, wk1, wk2, wk3, Nat.reduceAdd, Nat.reduceEqDiff, Nat.reduceLeDiff, Nat.reduceLT, Nat.reduceMul, Int.reduceLE, Int.reduceLT, Int.reduceEq, Int.reduceNe, wk4, laidS, keepS]
  refine icall_drop [] m1 ⟨arg_c0, trivial⟩ okR_books ?_
  simp only [↓wt, wu, wk0, wk1, wk2, wk3, Nat.reduceAdd, Nat.reduceEqDiff, Nat.reduceLeDiff, Nat.reduceLT, Nat.reduceMul, Int.reduceLE, Int.reduceLT, Int.reduceEq, Int.reduceNe, wk4, laidS, keepS, BooksV, hl]
  refine icall_drop [] m2 ⟨arg_c0, arg_c, trivial⟩ (.c _) ?_
  simp only [↓wt, wu, wk0, wk1, wk2, wk3, Nat.reduceAdd, Nat.reduceEqDiff, Nat.reduceLeDiff, Nat.reduceLT, Nat.reduceMul, Int.reduceLE, Int.reduceLT, Int.reduceEq, Int.reduceNe, wk4, laidS, keepS]
  refine icall_drop [] m3 ⟨arg_c0, arg_c, trivial⟩ (.c _) ?_
  simp only [↓wt, wu, wk0, wk1, wk2, wk3, Nat.reduceAdd, Nat.reduceEqDiff, Nat.reduceLeDiff, Nat.reduceLT, Nat.reduceMul, Int.reduceLE, Int.reduceLT, Int.reduceEq, Int.reduceNe, wk4, laidS, keepS]
  refine icall_drop [] m4 ⟨arg_c0, arg_books, trivial⟩ (.c _) ?_
  simp only [↓wt, wu, wk0, wk1, wk2, wk3, Nat.reduceAdd, Nat.reduceEqDiff, Nat.reduceLeDiff, Nat.reduceLT, Nat.reduceMul, Int.reduceLE, Int.reduceLT, Int.reduceEq, Int.reduceNe, wk4, laidS, keepS]
  refine icall_drop [] m5 ⟨arg_c0, arg_books, arg_c, arg_c, arg_c, trivial⟩ okR_booksC ?_
  simp only [↓wt, wu, wk0, wk1, wk2, wk3, Nat.reduceAdd, Nat.reduceEqDiff, Nat.reduceLeDiff, Nat.reduceLT, Nat.reduceMul, Int.reduceLE, Int.reduceLT, Int.reduceEq, Int.reduceNe, wk4, laidS, keepS, BooksC, BooksV]
  refine icall_drop [] m6 ⟨arg_c0, arg_books, arg_c, arg_c, trivial⟩ okR_booksC ?_
  simp only [↓wt, wu, wk0, wk1, wk2, wk3, Nat.reduceAdd, Nat.reduceEqDiff, Nat.reduceLeDiff, Nat.reduceLT, Nat.reduceMul, Int.reduceLE, Int.reduceLT, Int.reduceEq, Int.reduceNe, wk4, laidS, keepS, BooksC, BooksV]
  refine icall_drop [] m7 ⟨arg_c0, arg_books, arg_c, trivial⟩ (.c _) ?_
  simp only [↓wt, wu, wk0, wk1, wk2, wk3, Nat.reduceAdd, Nat.reduceEqDiff, Nat.reduceLeDiff, Nat.reduceLT, Nat.reduceMul, Int.reduceLE, Int.reduceLT, Int.reduceEq, Int.reduceNe, wk4, laidS, keepS]
  refine icall_drop [] m8 ⟨arg_c0, arg_books, arg_c, trivial⟩ (.c _) ?_
  simp only [↓wt, wu, wk0, wk1, wk2, wk3, Nat.reduceAdd, Nat.reduceEqDiff, Nat.reduceLeDiff, Nat.reduceLT, Nat.reduceMul, Int.reduceLE, Int.reduceLT, Int.reduceEq, Int.reduceNe, wk4, laidS, keepS, Try.results9]
  exact exp_c
end Go.Ab
