/- Rights: the law RightsKeep. -/
import Derived.Test.YtblnakmeaokemadRt15
set_option linter.unusedSimpArgs false
set_option linter.unusedVariables false
set_option linter.constructorNameAsVariable false
set_option maxRecDepth 100000
namespace Go.Ab
open Go Go.Proofs Go.RowKit

theorem ofR_bnd (c : Conf) (l : List RowD) (w : Int) : 0 ≤ ofR c l w ∧ ofR c l w ≤ 100000000000000000 := by
  unfold ofR
  split
  · rename_i h
    have hw := there_nat h.1 h.2
    refine ⟨h.1.2.2 _ hw.2, ?_⟩
    have b1 := share_bnd c w.toNat
    have b2 := came_bnd (h.1.2.1.inW h.1.1 hw.2) (Nat.le_refl _)
    have b3 := sent_bnd (rowAt l w.toNat).o
    have b4 := h.1.2.1.row h.1.1 hw.2
    unfold ofC; omega
  · omega
theorem val_bnd {c : Conf} {l : List RowD} (h : RightB c l) : 0 ≤ valC c l ∧ valC c l ≤ 100000000000000 := by
  rw [valC, if_pos h]
  have h1 := of_sum h.1 h.2.1
  have h2 := net_bnd h.1 h.2.1 (Nat.le_refl _)
  have h3 := h.1.2.2.2.2.1
  have h4 := isum_nn (f := fun w => ofC c l w) (k := l.length) h.2.2
  omega
end Go.Ab
