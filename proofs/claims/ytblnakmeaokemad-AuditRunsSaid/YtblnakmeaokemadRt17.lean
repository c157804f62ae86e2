/- Rights: configs, books and numbers that came in. -/
import Derived.Test.YtblnakmeaokemadRt16
import Derived.Test.YtblnakmeaokemadAbG6
import Derived.Test.YtblnakmeaokemadAbG7
import Derived.Test.YtblnakmeaokemadAbG8
set_option linter.unusedSimpArgs false
set_option linter.unusedVariables false
set_option linter.constructorNameAsVariable false
set_option maxRecDepth 100000
namespace Go.Ab
open Go Go.Proofs Go.RowKit Go.ChangeShapes Go.WideShapes Go.ChangeAt

theorem int_opener : Opener Try.prog 3 (fun n : Int => .c (.int .i64 n)) (fun n => -9223372036854775808 ≤ n ∧ n < 9223372036854775808) :=
  Opener.map (.int Try.underlying3) id fun n h => ⟨rfl, wf_i64 h⟩
theorem i64_opener : Opener Try.prog 2 (fun n : Int => .c (.int .i64 n)) (fun n => -9223372036854775808 ≤ n ∧ n < 9223372036854775808) :=
  Opener.map (.int Try.underlying2) id fun n h => ⟨rfl, wf_i64 h⟩
theorem conf_opener : Opener Try.prog 23 ConfA (fun _ => True) := by
  refine Opener.map (Opener.struct ti23 rfl (by simp [cellsOf_tok ti3, cellsOf_tok ti2]) (FOpener.cons int_opener ti3 (.cons int_opener ti3 (.cons int_opener ti3 (.cons int_opener ti3 (.cons i64_opener ti2 (.cons i64_opener ti2 .nil))))))) (fun a => ⟨a.1, a.2.1, a.2.2.1, a.2.2.2.1, a.2.2.2.2.1, a.2.2.2.2.2.1⟩) fun a _ => ⟨rfl, trivial⟩
theorem row_opener : Opener Try.prog 88 RowV (fun r => r.o.length < 4611686018427387904) := by
  refine Opener.map (Opener.struct ti88 rfl (by simp [cellsOf_tok ti2, cellsOf_tok ti59]) (FOpener.cons i64_opener ti2 (.cons i64_opener ti2 (.cons (.sliceB Try.underlying59 i64_opener ti2 (by decide)) ti59 .nil)))) (fun a => ⟨a.1, a.2.1, a.2.2.1⟩) fun a h => ⟨rfl, ?_⟩
  have := h.2.2.1.1
  simp only [reachBytes] at this ⊢
  omega
theorem books_opener : Opener Try.prog 42 BooksV Wide := by
  refine Opener.map (.sliceB Try.underlying42 row_opener ti88 (by decide)) id fun a h => ⟨rfl, ?_⟩
  have := h.1
  simp only [reachBytes] at this
  refine ⟨by show a.length < _; omega, fun k => ?_⟩
  show (rowAt a k).o.length < _
  unfold rowAt
  rw [List.getD_eq_getElem?_getD]
  cases e : a[k]? with
  | none => simp
  | some r => exact h.2 r (List.mem_of_getElem? e)
end Go.Ab
