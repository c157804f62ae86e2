/- What comes back may be given up at once. -/
import Derived.Test.YtpjmbigfgoogaacAb25
set_option linter.unusedVariables false
set_option linter.unusedSimpArgs false
set_option linter.constructorNameAsVariable false
namespace Go.Ab
open Go Go.RowKit

theorem exp_o_inv {M : Mem} {a : AV} {T : TypeId} {sz : Nat} {xs : List AV} (h : Exp M a (.o T sz xs)) : ∃ id, a = .s id 0 xs.length ∧ M.get id = some ⟨T, sz, xs⟩ ∧ PureL xs := by
  obtain ⟨ids, fz, h, _⟩ := h
  cases a with
  | s id off n =>
    have hc : off = 0 ∧ ids = [id] ∧ fz = [] ∧ M.get id = some ⟨T, sz, xs⟩ ∧ n = xs.length ∧ PureL xs := h
    obtain ⟨rfl, _, _, h1, rfl, h2⟩ := hc
    exact ⟨_, rfl, h1, h2⟩
  | _ =>
    have hc := h
    simp only [ExpR, ExpA, ExpC] at hc
    exact absurd hc.2.1 (fun h => by cases h)
theorem PCall.frz {P : Program} {f : FuncId} {args : List AV} {T : TypeId} {sz : Nat} {xs : List AV} (h : PCall P f args (.o T sz xs)) : PCall P f args (.l sz xs) :=
  ICall.mono h fun a M h => by
    obtain ⟨id, rfl, h1, h2⟩ := exp_o_inv h
    exact ⟨[], [id], ⟨rfl, rfl, _, h1, by simp, rfl, by simp, h2⟩, by simp, by simp⟩
theorem tmod_nat {a b : Nat} : (a : Int).tmod b = ((a % b : Nat) : Int) := by rw [Int.ofNat_tmod]
end Go.Ab
