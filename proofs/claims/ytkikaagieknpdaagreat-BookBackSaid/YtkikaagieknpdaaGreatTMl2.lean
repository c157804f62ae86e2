/- Mail: a number is read by a reader that was lent. Mail: numbers are filled .. -/
import Derived.Test.YtkikaagieknpdaaGreatTBk15
import Derived.Test.YtkikaagieknpdaaGreatTGr1
import Derived.Test.YtkikaagieknpdaaGreatAbG7
import Derived.Test.YtkikaagieknpdaaGreatTRt12
import Derived.Test.YtkikaagieknpdaaGreatTRt15
import Derived.Test.YtkikaagieknpdaaGreatTRt8
set_option linter.unusedSimpArgs false
set_option linter.unusedVariables false
set_option linter.constructorNameAsVariable false
set_option maxRecDepth 100000
namespace Go.Ab
open Go Go.Proofs Go.RowKit
end Go.Ab
namespace Go.Ab
open Go Go.Proofs Go.RowKit
def ptr (j : Nat) : AV := .p 1 0 j 1
end Go.Ab
namespace Go.Ab
open Go Go.Proofs Go.RowKit
end Go.Ab
namespace Go.Ab
open Go Go.Proofs Go.RowKit
theorem Under.mono {k n : Nat} (hk : k ≤ n) {a : AV} (h : Under k a) : Under n a := by
 induction h with
 | c v => exact .c v
 | x => exact .x
 | l sz xs h ih => exact .l sz xs ih
 | g cs h ih => exact .g cs ih
 | t cs h ih => exact .t cs ih
 | e cs h ih => exact .e cs ih
 | f fn cs h ih => exact .f fn cs ih
 | b fn cs h ih => exact .b fn cs ih
 | p id i j m h => exact .p _ _ _ _ (by omega)
 | s id off m h => exact .s _ _ _ (by omega)
def isD : AV → Prop
 | .c _ => True
 | .l _ xs => PureL xs
 | _ => False
theorem isD.cell {a : AV} (h : isD a) : Cell a := by cases a <;> first | trivial | exact h.elim
theorem isD.hd {n : Nat} {a : AV} (h : isD a) : HdC n a := by
 cases a <;> first | exact h.elim | skip
 · exact .c _
 · exact .l _ _ h
end Go.Ab
namespace Go.Ab
open Go Go.Proofs Go.RowKit
end Go.Ab
namespace Go.Ab
open Go Go.Proofs Go.RowKit
end Go.Ab
