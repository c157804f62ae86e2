/- Rows: what they say. -/
import Derived.Test.YtblnakmeaokemadTab
set_option linter.unusedSimpArgs false
set_option linter.unusedVariables false
set_option maxRecDepth 100000
namespace Go.Ab
open Go Go.Proofs

/-- A row, as it comes in. -/
def RowA (i u : Int) (o : List Int) : AV := .g [.c (.int .i64 i), .c (.int .i64 u), .l 1 (o.map encI)]
def rs_I (i u j v : Int) (o p : List Int) (k : Nat) : ASt :=
  ⟨[(2, .p 0 0 0 1), (3, .p 1 0 0 1), (4, .c (.bool false)), (5, .c (.int .i64 k))], ⟨[(0, ⟨88, 3, [RowA i u o]⟩), (1, ⟨88, 3, [RowA j v p]⟩)], 2⟩, 45⟩
end Go.Ab
