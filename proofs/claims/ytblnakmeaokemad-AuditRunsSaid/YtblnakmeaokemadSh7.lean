/- Rows: behind, by the program. -/
import Derived.Test.YtblnakmeaokemadSh6
set_option linter.unusedSimpArgs false
set_option linter.unusedVariables false
set_option linter.constructorNameAsVariable false
set_option maxRecDepth 100000
namespace Go.Ab
open Go Go.Proofs Go.RowKit Go.Shelf
attribute [local go_sem] Oper.semAt_some

/-- From the kit's word on a call to a contract: a result without memory. -/
theorem pcall_scalar {P : Program} {f : FuncId} {args : List AV} {v : Value} (h1 : ∃ fn, P.funcs[f]? = some fn ∧ fn.body.isNone = false ∧ (fn.name == "runtime.NumGoroutine") = false) (hv : One v)
    (h : ∀ (E : Env) (vs : Array Value), vs.size = args.length → (∀ i (h1 : i < args.length) (h2 : i < vs.size), Rep E args[i] vs[i]) → (∀ b, E.Z b → b < E.w.heap.size) →
      Calls P f vs E.w fun e w' => e = .returned v ∧ Below E.w.heap.size E.w w') : PCall P f args (.c v) := by
  refine ⟨h1, fun w0 E vs hg hs hr => Calls.mono' (h E vs hs hr fun b hb => hb.1) ?_⟩
  rintro e w' ⟨rfl, hb⟩
  obtain ⟨g1, g2⟩ := hg.grow hb
  exact ⟨v, _, _, .c v, rfl, rfl, g1, g2, .c v hv, exp_c⟩
theorem list_inv {E : Env} {o : List Int} {v : Value} (h : Rep E (.l 1 (o.map encI)) v) : ∃ A c, v = .slice A o.length c ∧ Ints E.Z E.w A o := by
  generalize he : AV.l 1 (o.map encI) = a at h
  cases h with
  | l sz xs b off cap y hcap hz hs hc hr =>
    injection he with e1 e2
    subst e1 e2
    refine ⟨some ⟨b, off, none⟩, cap, by simp, fun _ => ⟨b, off, rfl, hz, fun k hk => ?_⟩⟩
    have hk' : k < (o.map encI).length := by simpa using hk
    have h1 := hc k 0 hk' (by omega)
    have h2 := hr k hk' 0 (by simp [encI, AV.cells])
    simp only [List.getElem_map, encI, AV.cells, List.getElem_cons_zero] at h2
    rw [Nat.mul_one, Nat.add_zero] at h1
    generalize y k 0 = yy at h1 h2
    cases h2
    rw [h1.1, List.getD_eq_getElem?_getD, List.getElem?_eq_getElem hk, Option.getD_some]
  | l0 sz A cap =>
    injection he with e1 e2
    have : o = [] := by simpa using e2
    subst this
    exact ⟨A, cap, rfl, fun h => absurd h (by simp)⟩
  | _ => cases he
theorem row_inv {E : Env} {i u : Int} {o : List Int} {v : Value} (h : Rep E (RowA i u o) v) : ∃ A c, v = .agg #[.int .i64 i, .int .i64 u, .slice A o.length c] ∧ Ints E.Z E.w A o := by
  unfold RowA at h
  cases h with
  | g cs ys h hr =>
    match ys, h, hr with
    | ⟨[a, b, c]⟩, _, hr =>
      have h0 := hr 0 (by simp) (by simp)
      have h1 := hr 1 (by simp) (by simp)
      have h2 := hr 2 (by simp) (by simp)
      simp only [List.getElem_cons_zero, List.getElem_cons_succ, List.getElem_toArray] at h0 h1 h2
      cases h0
      cases h1
      obtain ⟨A, cp, rfl, h3⟩ := list_inv h2
      exact ⟨A, cp, rfl, h3⟩
abbrev encP (x : Int × Int) : Array Value := #[.int .i64 x.1, .int .i64 x.2]
theorem Ints.mono {Z Z' : Nat → Prop} {W W' : World} {A : Option Addr} {zs : List Int} (h : Ints Z W A zs) (hz : ∀ b, Z b → Z' b ∧ W'.heap[b]? = W.heap[b]?) : Ints Z' W' A zs := fun hl => by
  obtain ⟨b, off, e, h1, h2⟩ := h hl
  exact ⟨b, off, e, (hz b h1).1, fun k hk => by rw [cell_same (hz b h1).2]; exact h2 k hk⟩
end Go.Ab
