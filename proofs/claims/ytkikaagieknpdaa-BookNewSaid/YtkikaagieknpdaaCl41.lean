/- Claims: may it be a note: the document's, another part. -/
import Derived.Test.YtkikaagieknpdaaTRt15
set_option linter.unusedSimpArgs false
set_option linter.unusedVariables false
set_option linter.constructorNameAsVariable false
set_option maxRecDepth 100000
namespace Go.Ab
open Go Go.Proofs Go.RowKit
end Go.Ab
