/- Giving up blocks of one's own behind a step. -/
import Derived.Test.YtpjmbigfgoogaacAb37
set_option linter.unusedVariables false
set_option linter.constructorNameAsVariable false
set_option linter.unusedSimpArgs false
namespace Go.Ab
open Go Go.RowKit

inductive FzK (K : Exit → ASt → Prop) (e : Exit) : ASt → Prop
  | done {s : ASt} (h : K e s) : FzK K e s
  | step {s : ASt} (id : Nat) (keep : List Nat) (hb : BOk s.m id (remove s.m.l id)) (hs : SOk s id keep) (h : FzK K e (frz s id keep)) : FzK K e s
theorem FzK.out {K : Exit → ASt → Prop} {e : Exit} {w0 : World} {D : List Deferred} {a : Act} {E0 : Env} {s : ASt} (h : FzK K e s) : ∀ E : Env, St w0 E D s a → Later E0 E → ∃ E' s', E'.w = E.w ∧ St w0 E' D s' a ∧ Later E0 E' ∧ K e s' := by
  induction h with
  | done h => exact fun E hst hl => ⟨E, _, rfl, hst, hl, h⟩
  | step id keep hb hs h ih =>
    intro E hst hl
    obtain ⟨E', s', h1, h2, h3, h4⟩ := ih (E.without [id]) (hst.freeze hb hs) (hl.trans (hst.g.without [id]).2)
    exact ⟨E', s', h1, h2, h3, h4⟩
/-- Blocks may be given up behind the step. -/
theorem frz_after {P : Program} {c : Code} {K : Exit → ASt → Prop} {s : ASt} (h : ACode P c (FzK K) s) : ACode P c K s := fun ro w0 E D a hst =>
  Code.wpIn_mono (fun e a' w' ⟨E', s', h1, h2, h3, h4⟩ => by
    obtain ⟨E2, s2, k1, k2, k3, k4⟩ := h4.out E' h2 h3
    exact ⟨E2, s2, k1.trans h1, k2, k3, k4⟩) (h ro w0 E D a hst)
end Go.Ab
