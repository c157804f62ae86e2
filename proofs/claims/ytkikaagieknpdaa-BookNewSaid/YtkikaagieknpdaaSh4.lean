/- Rows: may it be one: the document's. -/
import Derived.Test.YtkikaagieknpdaaTNb5
set_option linter.unusedSimpArgs false
set_option linter.unusedVariables false
set_option linter.constructorNameAsVariable false
set_option maxRecDepth 100000
namespace Go.Ab
open Go Go.Proofs
end Go.Ab
