/- Rows: joined, by the program. Rows: joined, by the program: the walk. -/
import Derived.Test.YtcikejikpnjilaaTSh5
import Derived.Test.YtcikejikpnjilaaAbG6
set_option linter.unusedSimpArgs false
set_option linter.unusedVariables false
set_option linter.constructorNameAsVariable false
set_option maxRecDepth 100000
namespace Go.Ab
open Go Go.Proofs Go.RowKit Go.Shelf

end Go.Ab

set_option linter.unusedSimpArgs false
set_option linter.unusedVariables false
set_option linter.constructorNameAsVariable false
set_option maxRecDepth 100000
namespace Go.Ab
open Go Go.Proofs Go.RowKit

theorem arg_row {M : Mem} {ids : List Nat} {i u : Int} {o : List Int} : VOkA M (RowA i u o) ∧ (∀ k ∈ idsA (RowA i u o), k ∈ ids) ∧ Weak (viewA M (RowA i u o)) (RowA i u o) ∧ Under 0 (RowA i u o) :=
  ⟨⟨trivial, trivial, trivial, trivial⟩, (fun i h => by simp [RowA, idsA, idsC] at h), by show WeakL _ _; exact .refl _, .g _ fun j hj => by
    match j, hj with
    | 0, _ => exact .c _
    | 1, _ => exact .c _
    | 2, _ => exact .l _ _ (by rw [← UnderL, underL_I]; trivial)⟩
end Go.Ab
