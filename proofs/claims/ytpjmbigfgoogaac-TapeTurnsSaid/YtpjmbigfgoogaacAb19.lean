/- A table of types, checked. -/
import Derived.Test.YtpjmbigfgoogaacAb18
set_option linter.unusedVariables false
set_option linter.unusedSimpArgs false
set_option linter.constructorNameAsVariable false
namespace Go.Ab
open Go Go.RowKit

def TI.fine (i : TI) : Bool := i.z.length == i.sz && i.z.all (fun v => v.oneCell') && i.zero.cells.size == i.sz
theorem TOk.mk' {P : Program} {t : TypeId} {i : TI} (h : (P.info? t).map (fun i => (i.zero, i.size, i.bytes)) = some (some i.zero, i.sz, i.by')) (k : KOk P t i.k) (hf : i.fine = true) : TOk P t i := by
  simp only [TI.fine, Bool.and_eq_true, beq_iff_eq, List.all_eq_true] at hf
  exact ⟨h, k, hf.1.1, hf.1.2, hf.2⟩
def TabAll (P : Program) : Tab → Prop
  | [] => True
  | p :: r => TOk P p.1 p.2 ∧ TabAll P r
theorem TabAll.ok {P : Program} : ∀ {tab : Tab}, TabAll P tab → TabOk P tab
  | [], _, _, _, h => by cases h
  | (t0, i0) :: r, h, t, i, he => by
    by_cases e : t0 = t
    · subst e
      simp only [assoc, Nat.beq_refl, cond_true, Option.some.injEq] at he
      subst he
      exact h.1
    · simp only [assoc, beq_ne e, cond_false] at he
      exact TabAll.ok h.2 t i he
end Go.Ab
