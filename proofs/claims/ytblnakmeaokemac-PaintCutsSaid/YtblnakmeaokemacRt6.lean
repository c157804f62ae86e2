/- Rights: what is asked; a row of books that is changed. -/
import Derived.Test.YtblnakmeaokemacRt5
import Derived.Test.YtblnakmeaokemacAbG8
set_option linter.unusedSimpArgs false
set_option linter.unusedVariables false
set_option linter.constructorNameAsVariable false
set_option maxRecDepth 100000
namespace Go.Ab
open Go Go.Proofs Go.RowKit

def askC (c : Conf) (l : List RowD) (w a : Int) : Int := if RightB c l ∧ There c w then (if 1 ≤ a ∧ a ≤ 1099511627776 then 0 else 2) else 1
theorem rasked_call (c : Conf) (l : List RowD) (w a : Int) (hl : Lens l) : PCall Try.prog 44 [ConfA c, BooksV l, .c (.int .i64 w), .c (.int .i64 a)] (.c (.int .i64 (askC c l w a))) := by
  have m1 := rright_call c l hl
  refine pcall_body tabOk Try.func44 rfl rfl (by rw [Try.ntmps44]; simp) ?_
  simp only [Try.ntmps44, ConfA, BooksV]
  simp only [↓wt, wu, wk0, wk1, wk2, wk3, Nat.reduceAdd, Nat.reduceEqDiff, Nat.reduceLeDiff, Nat.reduceLT, Nat.reduceMul, Int.reduceLE, Int.reduceLT, Int.reduceEq, Int.reduceNe, wk4, laidS, keepS]
  refine icall_drop [] m1 ⟨arg_conf', arg_books, trivial⟩ (.c _) ?_
  simp only [↓wt, wu, wk0, wk1, wk2, wk3, Nat.reduceAdd, Nat.reduceEqDiff, Nat.reduceLeDiff, Nat.reduceLT, Nat.reduceMul, Int.reduceLE, Int.reduceLT, Int.reduceEq, Int.reduceNe, wk4, laidS, keepS]
  refine r_gcasesN (fun h1 hb => ?_) (fun h1 hb => ?_) <;> simp only [↓wt, wu, wk0, wk1, wk2, wk3, Nat.reduceAdd, Nat.reduceEqDiff, Nat.reduceLeDiff, Nat.reduceLT, Nat.reduceMul, Int.reduceLE, Int.reduceLT, Int.reduceEq, Int.reduceNe, wk4, laidS, keepS, hb]
  · repeat' (first | (refine r_casesD (fun hp hb => ?_) (fun hp hb => ?_) <;> simp only [↓wt, wu, wk0, wk1, wk2, wk3, Nat.reduceAdd, Nat.reduceEqDiff, Nat.reduceLeDiff, Nat.reduceLT, Nat.reduceMul, Int.reduceLE, Int.reduceLT, Int.reduceEq, Int.reduceNe, wk4, laidS, keepS, Try.results44, hb]) | (refine r_casesN (fun hp hb => ?_) (fun hp hb => ?_) <;> simp only [↓wt, wu, wk0, wk1, wk2, wk3, Nat.reduceAdd, Nat.reduceEqDiff, Nat.reduceLeDiff, Nat.reduceLT, Nat.reduceMul, Int.reduceLE, Int.reduceLT, Int.reduceEq, Int.reduceNe, wk4, laidS, keepS, Try.results44, hb]) | (refine r_casesM (fun hp hb => ?_) (fun hp hb => ?_) <;> simp only [↓wt, wu, wk0, wk1, wk2, wk3, Nat.reduceAdd, Nat.reduceEqDiff, Nat.reduceLeDiff, Nat.reduceLT, Nat.reduceMul, Int.reduceLE, Int.reduceLT, Int.reduceEq, Int.reduceNe, wk4, laidS, keepS, Try.results44, hb]) | (refine r_casesB (fun hp hb => ?_) (fun hp hb => ?_) <;> simp only [↓wt, wu, wk0, wk1, wk2, wk3, Nat.reduceAdd, Nat.reduceEqDiff, Nat.reduceLeDiff, Nat.reduceLT, Nat.reduceMul, Int.reduceLE, Int.reduceLT, Int.reduceEq, Int.reduceNe, wk4, laidS, keepS, Try.results44, hb]) | (refine r_gcasesD (fun hp hb => ?_) (fun hp hb => ?_) <;> simp only [↓wt, wu, wk0, wk1, wk2, wk3, Nat.reduceAdd, Nat.reduceEqDiff, Nat.reduceLeDiff, Nat.reduceLT, Nat.reduceMul, Int.reduceLE, Int.reduceLT, Int.reduceEq, Int.reduceNe, wk4, laidS, keepS, Try.results44, hb]) | (refine r_gcasesN (fun hp hb => ?_) (fun hp hb => ?_) <;> simp only [↓wt, wu, wk0, wk1, wk2, wk3, Nat.reduceAdd, Nat.reduceEqDiff, Nat.reduceLeDiff, Nat.reduceLT, Nat.reduceMul, Int.reduceLE, Int.reduceLT, Int.reduceEq, Int.reduceNe, wk4, laidS, keepS, Try.results44, hb]) | (refine r_gcasesM (fun hp hb => ?_) (fun hp hb => ?_) <;> simp only [↓wt, wu, wk0, wk1, wk2, wk3, Nat.reduceAdd, Nat.reduceEqDiff, Nat.reduceLeDiff, Nat.reduceLT, Nat.reduceMul, Int.reduceLE, Int.reduceLT, Int.reduceEq, Int.reduceNe, wk4, laidS, keepS, Try.results44, hb]) | (refine r_gcasesB (fun hp hb => ?_) (fun hp hb => ?_) <;> simp only [↓wt, wu, wk0, wk1, wk2, wk3, Nat.reduceAdd, Nat.reduceEqDiff, Nat.reduceLeDiff, Nat.reduceLT, Nat.reduceMul, Int.reduceLE, Int.reduceLT, Int.reduceEq, Int.reduceNe, wk4, laidS, keepS, Try.results44, hb]) | ((with_reducible refine And.intro ?_ ?_); omega) | fail)
    · exact exp_i (by rw [askC, if_neg fun h => by have := h.2.1; omega])
    · exact exp_i (by rw [askC, if_neg fun h => by have := h.2.2; omega])
    · exact exp_i (by rw [askC, if_pos ⟨h1, by omega, by omega⟩, if_neg (by omega)])
    · exact exp_i (by rw [askC, if_pos ⟨h1, by omega, by omega⟩, if_neg (by omega)])
    · exact exp_i (by rw [askC, if_pos ⟨h1, by omega, by omega⟩, if_pos (by omega)])
  · simp only [↓wt, wu, wk0, wk1, wk2, wk3, Nat.reduceAdd, Nat.reduceEqDiff, Nat.reduceLeDiff, Nat.reduceLT, Nat.reduceMul, Int.reduceLE, Int.reduceLT, Int.reduceEq, Int.reduceNe, wk4, laidS, keepS, Try.results44]
    exact exp_i (by rw [askC, if_neg fun h => h1 h.1])
/-- Books of the call's own, with a row whose numbers are the call's own, too. -/
def chM (l : List RowD) (w : Nat) (i u : Int) (o : List Int) : Mem := ⟨[(0, ⟨47, 3, (l.map RowV).set w (.g [.c (.int .i64 i), .c (.int .i64 u), .s 1 0 o.length])⟩), (1, ⟨2, 1, o.map encI⟩)], 2⟩
/-- The closures that change a row. -/
theorem store_set {l : List AV} {w : Nat} {x y : AV} : (l.set w x).set w y = l.set w y := List.set_set ..
theorem mapI_set {o : List Int} {k : Nat} {v : Int} : (o.map encI).set k (.c (.int .i64 v)) = (o.set k v).map encI := by rw [← encI_eq]; exact List.map_set.symm
end Go.Ab
