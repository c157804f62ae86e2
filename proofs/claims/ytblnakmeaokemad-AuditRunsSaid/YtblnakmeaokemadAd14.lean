/- Messages that came in. -/
import Derived.Test.YtblnakmeaokemadAd13
import Derived.Test.YtblnakmeaokemadCl13
set_option linter.unusedSimpArgs false
set_option linter.unusedVariables false
set_option linter.constructorNameAsVariable false
set_option maxRecDepth 100000
namespace Go.Ab
open Go Go.Proofs Go.RowKit Go.ChangeShapes Go.WideShapes Go.ChangeAt

theorem mails_opener : Opener Try.prog 70 (fun l : List MailD => .l 11 (l.map MailV)) (fun l => l.length < 4611686018427387904 ∧ ∀ j, Wide (mailAt l j).r) := by
  refine Opener.map (.sliceB Try.underlying70 mail_opener ti45 (by decide)) id fun a h => ⟨rfl, ?_⟩
  have := h.1
  simp only [reachBytes] at this
  refine ⟨by show a.length < _; omega, fun j => ?_⟩
  show Wide (mailAt a j).r
  unfold mailAt
  rw [List.getD_eq_getElem?_getD]
  cases e : a[j]? with
  | none =>
    show Wide []
    exact ⟨by decide, fun k => by rw [rowAt_ge (by simp)]; decide⟩
  | some r => exact (h.2 r (List.mem_of_getElem? e)).1
end Go.Ab
