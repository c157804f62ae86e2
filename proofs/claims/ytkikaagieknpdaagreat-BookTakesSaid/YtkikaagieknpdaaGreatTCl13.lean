/- Claims: notes, messages and stamps that came in. Books that came in. Paint: .. -/
import Derived.Test.YtkikaagieknpdaaGreatTRt15
import Derived.Test.YtkikaagieknpdaaGreatAbG5
import Derived.Test.YtkikaagieknpdaaGreatAbG6
import Derived.Test.YtkikaagieknpdaaGreatTCl4
import Derived.Test.YtkikaagieknpdaaGreatTRt12
set_option linter.unusedSimpArgs false
set_option linter.unusedVariables false
set_option linter.constructorNameAsVariable false
set_option maxRecDepth 100000
namespace Go.Ab
open Go Go.Proofs Go.RowKit Go.ChangeShapes Go.WideShapes Go.ChangeAt
end Go.Ab
namespace Go.Ab
open Go Go.Proofs Go.RowKit Go.ChangeShapes Go.WideShapes Go.ChangeAt
end Go.Ab
namespace Go.Ab
open Go Go.Proofs Go.RowKit
def c6 : Conf := ⟨1, 1, 0, 1, 0, 9⟩
def l6 : List RowD := [⟨5, 0, [0]⟩]
end Go.Ab
namespace Go.Ab
open Go Go.Proofs Go.RowKit Go.ChangeShapes Go.WideShapes Go.ChangeAt
theorem bytes_openerZ : Opener Tryz.prog 24 Bs (fun l => l.length < 4611686018427387904) := by
 refine Opener.map (.sliceB Tryz.underlying24 (.int Tryz.underlying5) ti5 (by decide)) (fun l : List Int => l.map fun n => UInt8.ofNat n.toNat) fun l h => ⟨?_, ?_⟩
 · show AV.l 1 _ = Bs _
   rw [Bs, List.map_map]
   congr 1
   refine List.map_congr_left fun n hn => ?_
   obtain ⟨a, rfl, b⟩ := wf_u8 (h.2 n hn)
   simp only [Function.comp, encB, Int.toNat_natCast]
   congr 2
   rw [UInt8.toNat_ofNat_of_lt' (by omega)]
 · have := h.1
   simp only [reachBytes] at this
   rw [List.length_map]
   omega
end Go.Ab
