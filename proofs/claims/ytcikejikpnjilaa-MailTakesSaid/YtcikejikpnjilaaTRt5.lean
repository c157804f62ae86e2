/- Rights: the rights of a replica; the value. Rights: what is asked; a row of books that is changed. Rights: put, taken, moved: the program's. -/
import Derived.Test.YtcikejikpnjilaaTRt2
import Derived.Test.YtcikejikpnjilaaAbG8
set_option linter.unusedSimpArgs false
set_option linter.unusedVariables false
set_option linter.constructorNameAsVariable false
set_option maxRecDepth 100000
namespace Go.Ab
open Go Go.Proofs Go.RowKit

end Go.Ab

set_option linter.unusedSimpArgs false
set_option linter.unusedVariables false
set_option linter.constructorNameAsVariable false
set_option maxRecDepth 100000
namespace Go.Ab
open Go Go.Proofs Go.RowKit

end Go.Ab

set_option linter.unusedSimpArgs false
set_option linter.unusedVariables false
set_option linter.constructorNameAsVariable false
set_option maxRecDepth 100000
namespace Go.Ab
open Go Go.Proofs Go.RowKit

theorem arg_fe {M : Mem} {ids : List Nat} {fn : FuncId} {cs : List AV} (h : ∀ a ∈ cs, Under 0 a) : VOkA M (.f fn cs) ∧ (∀ k ∈ idsA (.f fn cs), k ∈ ids) ∧ Weak (viewA M (.f fn cs)) (.f fn cs) ∧ Under 0 (.f fn cs) :=
  ⟨trivial, (fun i h => by simp [idsA, idsC] at h), by unfold Weak; exact .refl _, .f _ _ fun i hi => h _ (List.getElem_mem hi)⟩
end Go.Ab
