/- Rights: awake. -/
import Derived.Test.YtblnakmeaokemadRt11
set_option linter.unusedSimpArgs false
set_option linter.unusedVariables false
set_option linter.constructorNameAsVariable false
set_option maxRecDepth 100000
namespace Go.Ab
open Go Go.Proofs Go.RowKit

def c0 : Conf := ⟨3, 1, 0, 1, 7, 5⟩
def l0 : List RowD := [⟨0, 0, [0, 0, 0]⟩, ⟨0, 0, [0, 0, 0]⟩, ⟨0, 0, [0, 0, 0]⟩]
def l1 : List RowD := [⟨0, 0, [0, 0, 3]⟩, ⟨0, 0, [0, 0, 0]⟩, ⟨0, 0, [0, 0, 0]⟩]
theorem c0_new : newB c0 = l0 := by decide +kernel
theorem c0_s0 : shareC c0 0 = 3 := by decide +kernel
theorem c0_s2 : shareC c0 2 = 2 := by decide +kernel
theorem c0_val : valC c0 l0 = 7 := by decide +kernel
theorem c0_move : moveR c0 l0 0 2 3 = (l1, 0) := by decide +kernel
theorem c0_take : takeR c0 l0 0 4 = ([], 7) := by decide +kernel
theorem c0_o2 : ofR c0 l1 2 = 5 := by decide +kernel
theorem c0_o0 : ofR c0 l1 0 = 0 := by decide +kernel
theorem lens_dec {l : List RowD} (h : l.length < 1000 ∧ ∀ r ∈ l, r.o.length < 1000) : Lens l := by
  refine ⟨by omega, fun k => ?_⟩
  by_cases hk : k < l.length
  · have := h.2 _ (List.getElem_mem hk)
    rw [rowAt, List.getD_eq_getElem?_getD, List.getElem?_eq_getElem hk, Option.getD_some]; omega
  · rw [rowAt_ge (by omega)]; simp
theorem l0_lens : Lens l0 := lens_dec (by decide)
theorem l1_lens : Lens l1 := lens_dec (by decide)
theorem okR_books {l : List RowD} : OkR (Under 0) (.l 3 (l.map RowV)) := .l _ _ (pureR l)
theorem okR_booksC {l : List RowD} {v : Value} : OkR (Under 0) (.t [.l 3 (l.map RowV), .c v]) := ⟨okR_books, .c _, trivial⟩
theorem arg_c0 {M : Mem} {ids : List Nat} : VOkA M (.g [.c (.int .i64 3), .c (.int .i64 1), .c (.int .i64 0), .c (.int .i64 1), .c (.int .i64 7), .c (.int .i64 5)]) ∧ (∀ k ∈ idsA (.g [.c (.int .i64 3), .c (.int .i64 1), .c (.int .i64 0), .c (.int .i64 1), .c (.int .i64 7), .c (.int .i64 5)]), k ∈ ids) ∧ Weak (viewA M (.g [.c (.int .i64 3), .c (.int .i64 1), .c (.int .i64 0), .c (.int .i64 1), .c (.int .i64 7), .c (.int .i64 5)])) (ConfA c0) ∧ Under 0 (ConfA c0) := arg_conf' (c := c0)
end Go.Ab
