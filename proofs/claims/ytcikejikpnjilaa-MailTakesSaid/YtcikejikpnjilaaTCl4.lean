/- Claims: may it be a note: the document's. Claims: may they be notes: the document's; the same. -/
import Derived.Test.YtcikejikpnjilaaCl40
import Derived.Test.YtcikejikpnjilaaCl41
import Derived.Test.YtcikejikpnjilaaCl42
set_option linter.unusedSimpArgs false
set_option linter.unusedVariables false
set_option linter.constructorNameAsVariable false
set_option maxRecDepth 100000
namespace Go.Ab
open Go Go.Proofs Go.RowKit

theorem rnote_call (c : Conf) (who : Int) (n : NoteD) : PCall Try.prog 29 [ConfA c, .c (.int .i64 who), NoteV n] (.c (.bool (decide (NoteOk c who n)))) := by
  by_cases hA : n.t = 0 ∧ n.w = 0 ∧ n.a = 0
  · exact rnote_A c who n hA
  by_cases hB : MaySt n.t n.w c.n ∧ n.w = who ∧ 1 ≤ n.a ∧ n.a ≤ 1099511627776
  · exact rnote_B c who n hB
  have hn : ¬ NoteOk c who n := fun h => h.2.1.elim hA hB
  by_cases h1 : n.t = 0
  · by_cases h2 : n.w = 0
    · exact rnote_C1 c who n hn h1 h2 fun h => hA ⟨h1, h2, h⟩
    · exact rnote_C2 c who n hn h1 h2
  by_cases h4 : MaySt n.t n.w c.n
  · by_cases h5 : n.w = who
    · by_cases h6 : n.a > 0
      · exact rnote_C6 c who n hn h1 h4 h5 h6 fun h => hB ⟨h4, h5, by omega, h⟩
      · exact rnote_C5 c who n hn h1 h4 h5 h6
    · exact rnote_C4 c who n hn h1 h4 h5
  · exact rnote_C3 c who n hn h1 h4
end Go.Ab

set_option linter.unusedSimpArgs false
set_option linter.unusedVariables false
set_option linter.constructorNameAsVariable false
set_option maxRecDepth 100000
namespace Go.Ab
open Go Go.Proofs Go.RowKit

end Go.Ab
