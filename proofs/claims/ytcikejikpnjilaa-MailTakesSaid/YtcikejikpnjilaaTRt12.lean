/- Rights: awake. Rights: the laws RightsTells, RightsDo, RightsJoins. Rights: what is put, taken and moved leaves books right; joined twice. -/
import Derived.Test.YtcikejikpnjilaaTCl1
set_option linter.unusedSimpArgs false
set_option linter.unusedVariables false
set_option linter.constructorNameAsVariable false
set_option maxRecDepth 100000
namespace Go.Ab
open Go Go.Proofs Go.RowKit

def c0 : Conf := ⟨3, 1, 0, 1, 7, 5⟩
def l0 : List RowD := [⟨0, 0, [0, 0, 0]⟩, ⟨0, 0, [0, 0, 0]⟩, ⟨0, 0, [0, 0, 0]⟩]
def l1 : List RowD := [⟨0, 0, [0, 0, 3]⟩, ⟨0, 0, [0, 0, 0]⟩, ⟨0, 0, [0, 0, 0]⟩]
theorem lens_dec {l : List RowD} (h : l.length < 1000 ∧ ∀ r ∈ l, r.o.length < 1000) : Lens l := by
  refine ⟨by omega, fun k => ?_⟩
  by_cases hk : k < l.length
  · have := h.2 _ (List.getElem_mem hk)
    rw [rowAt, List.getD_eq_getElem?_getD, List.getElem?_eq_getElem hk, Option.getD_some]; omega
  · rw [rowAt_ge (by omega)]; simp
theorem okR_books {l : List RowD} : OkR (Under 0) (.l 3 (l.map RowV)) := .l _ _ (pureR l)
end Go.Ab

set_option linter.unusedSimpArgs false
set_option linter.unusedVariables false
set_option linter.constructorNameAsVariable false
set_option maxRecDepth 100000
namespace Go.Ab
open Go Go.Proofs Go.RowKit

theorem short_lens {l : List RowD} (h : ShortB l) : Lens l := by
  unfold ShortB shN at h
  have hn : ∀ j, 0 ≤ (((rowAt l j).o.length : Nat) : Int) := fun j => by omega
  have h0 := isum_nn (f := fun j => ((rowAt l j).o.length : Int)) (k := l.length) fun j _ => hn j
  refine ⟨by omega, fun k => ?_⟩
  by_cases hk : k < l.length
  · have h1 := isum_mono (f := fun j => ((rowAt l j).o.length : Int)) hn (k := k + 1) (m := l.length) hk
    have h2 := isum_nn (f := fun j => ((rowAt l j).o.length : Int)) (k := k) fun j _ => hn j
    simp only [isum] at h1
    omega
  · rw [rowAt_ge (by omega)]; simp
end Go.Ab

set_option linter.unusedSimpArgs false
set_option linter.unusedVariables false
set_option linter.constructorNameAsVariable false
set_option maxRecDepth 100000
namespace Go.Ab
open Go Go.Proofs Go.RowKit

end Go.Ab
