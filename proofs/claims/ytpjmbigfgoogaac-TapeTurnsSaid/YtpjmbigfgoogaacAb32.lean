/- From the kit's word on a call to a contract. -/
import Derived.Test.YtpjmbigfgoogaacAb31
set_option linter.unusedVariables false
set_option linter.unusedSimpArgs false
set_option linter.constructorNameAsVariable false
namespace Go.Ab
open Go Go.RowKit

theorem pureLL_self : ∀ {l : List AV}, (∀ i (hi : i < l.length), Under 0 l[i]) → PureLL l l
  | [], _ => trivial
  | a :: r, h => ⟨⟨by
      unfold Weak
      split
      · exact .refl _
      · exact .refl _, h 0 (by simp)⟩, pureLL_self fun i hi => h (i + 1) (by simpa using hi)⟩
theorem exp_self {M : Mem} {a : AV} (hu : Under 0 a) : Exp M a a := by
  cases hu with
  | t cs h => exact exp_t (pureLL_self h)
  | g cs h => exact exp_g (by unfold Weak; exact .refl _) (.g cs h)
  | p id i j n h => omega
  | s id off n h => omega
  | c v => exact exp_c
  | x => exact ⟨[], [], expC_pure (M := M) (.refl _) .x, by simp, by simp⟩
  | l sz xs h => exact ⟨[], [], expC_pure (M := M) (.refl _) (.l sz xs h), by simp, by simp⟩
  | e cs h => exact ⟨[], [], expC_pure (M := M) (.refl _) (.e cs h), by simp, by simp⟩
  | f fn cs h => exact ⟨[], [], expC_pure (M := M) (.refl _) (.f fn cs h), by simp, by simp⟩
/-- A result of which nobody writes anything. -/
theorem pcall_pure {P : Program} {f : FuncId} {args : List AV} {res : AV} (h1 : ∃ fn, P.funcs[f]? = some fn ∧ fn.body.isNone = false ∧ (fn.name == "runtime.NumGoroutine") = false) (hu : Under 0 res)
    (h : ∀ (E : Env) (vs : Array Value), vs.size = args.length → (∀ i (h1 : i < args.length) (h2 : i < vs.size), Rep E args[i] vs[i]) →
      Calls P f vs E.w fun e w' => ∃ v, e = .returned v ∧ Below E.w.heap.size E.w w' ∧ ∀ E' : Env, E'.w = w' → (∀ b, E.Z b → E'.Z b ∧ E'.w.heap[b]? = E.w.heap[b]?) → (∀ b, E.w.heap.size ≤ b → b < w'.heap.size → E'.Z b) → Rep E' res v) : PCall P f args res := by
  refine ⟨h1, fun w0 E vs hg hs hr => Calls.mono' (h E vs hs hr) ?_⟩
  rintro e w' ⟨v, rfl, hb, hv⟩
  obtain ⟨g1, g2⟩ := hg.grow hb
  refine ⟨v, _, _, res, rfl, rfl, g1, g2, hv _ rfl g2.z fun b h1 h2 => ⟨h2, fun hh => ?_, fun id q hq => ?_⟩, exp_self hu⟩
  · have := hg.old b hh
    have := hg.below.size
    omega
  · rw [hg.gone id rfl] at hq; cases hq
theorem r_callV {P : Program} {M : Mem} {l caps : List AV} {K : AV → Mem → Prop} {fn : FuncId} : callValK P M l K (.f fn caps) = ICall P fn (l ++ caps) M K := rfl
theorem under_f0 {k : Nat} {fn : FuncId} : Under k (.f fn []) = True := eq_true (.f _ _ fun i hi => absurd hi (by simp))
theorem exp_b {M : Mem} {b : Bool} {p : Prop} [Decidable p] (h : b = decide p) : Exp M (.c (.bool b)) (.c (.bool (decide p))) := h ▸ exp_c
theorem arg_f {M : Mem} {ids : List Nat} {fn : FuncId} : VOkA M (.f fn []) ∧ (∀ i ∈ idsA (.f fn []), i ∈ ids) ∧ Weak (viewA M (.f fn [])) (.f fn []) ∧ Under 0 (.f fn []) :=
  ⟨trivial, (fun i h => by simp [idsA, idsC] at h), by unfold Weak; exact .refl _, .f _ _ fun i hi => absurd hi (by simp)⟩
end Go.Ab
