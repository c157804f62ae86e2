/- A contract from the kit's word on a call: a row of the callee's own, that has nothing yet, or room. -/
import Derived.Test.YtdnhojfkjgggbaaDoorTab
import Derived.Test.YtdnhojfkjgggbaaDoorAbG8
import Derived.Lib.AppendZerosOnto
import Derived.Lib.SliceRun
import Derived.Lib.Walk
import Derived.Shelf.Abstract
import Derived.Shelf.RegionOpenPlain
set_option linter.unusedSimpArgs false
set_option linter.unusedVariables false
set_option linter.constructorNameAsVariable false
set_option maxRecDepth 100000
namespace Go.Ab
open Go Go.Proofs Go.RowKit Go.Shelf

/-- From the kit's word on a call to a contract: a row of the callee's own, that has nothing yet, or room. -/
theorem pcall_room {P : Program} {f : FuncId} {args : List AV} {T : TypeId} (h1 : ∃ fn, P.funcs[f]? = some fn ∧ fn.body.isNone = false ∧ (fn.name == "runtime.NumGoroutine") = false)
    (h : ∀ (E : Env) (vs : Array Value), vs.size = args.length → (∀ i (h1 : i < args.length) (h2 : i < vs.size), Rep E args[i] vs[i]) →
      Calls P f vs E.w fun e w' => Below E.w.heap.size E.w w' ∧ (e = .returned (.slice none 0 0) ∨ ∃ b G arr, e = .returned (.slice (some ⟨b, 0, none⟩) 0 G) ∧ E.w.heap.size ≤ b ∧ w'.heap[b]? = some (.cells arr T (0, 0)) ∧ arr.size = G ∧ G ≤ maxLen)) :
    PCall P f args (.o T 1 []) := by
  refine ⟨h1, fun w0 E vs hg hs hr => Calls.mono' (h E vs hs hr) ?_⟩
  rintro e w' ⟨hb, hcase⟩
  obtain ⟨g1, g2⟩ := hg.grow hb
  have hk : E.k = 0 := hg.k.symm
  have had : ∀ id, E.ad id = none := fun id => hg.gone id rfl
  -- the moment behind: one block of the call's own
  have fin : ∀ (q : At) (v : Value), q.sz = 1 → q.n = 0 → (0 < q.cp → E.w.heap.size ≤ q.b ∧ Backed ⟨w', fun i => if i = 0 then some q else none, 1, E.hid⟩ q ⟨T, 1, []⟩) → Rep ⟨w', fun i => if i = 0 then some q else none, 1, E.hid⟩ (.s 0 0 0) v →
      ∃ v' E' M' a, Ending.returned v = .returned v' ∧ E'.w = w' ∧ Good w0 E' M' ∧ Later E E' ∧ Rep E' a v' ∧ Exp M' a (.o T 1 []) := fun q v q1 q2 q3 q4 => by
    refine ⟨v, ⟨w', fun i => if i = 0 then some q else none, 1, E.hid⟩, ⟨[(0, ⟨T, 1, []⟩)], 1⟩, .s 0 0 0, rfl, rfl, ?_, ?_, q4, exp_own rfl rfl (fun i h => absurd h (by simp))⟩
    · refine ⟨g1.below, rfl, fun id q' hq => ?_, fun id hM => ?_, fun id blk hM => ?_, fun id q' hq hcp hh => ?_, fun b0 h0 => Nat.lt_of_lt_of_le (hg.old b0 h0) hb.size, fun i i' q1' q2' hne h1 h2 => ?_⟩
      · by_cases e : id = 0
        · subst e; exact Nat.lt_succ_self _
        · simp [e] at hq
      · by_cases e : id = 0
        · subst e; simp [Mem.get, assoc] at hM
        · simp [e]
      · by_cases e : id = 0
        · subst e
          simp only [Mem.get, assoc, Nat.beq_refl, cond_true, Option.some.injEq] at hM
          subst hM
          exact ⟨q, by simp, q1, by simpa using q2, by omega, fun hcp => ⟨Nat.le_trans hg.below.size (q3 hcp).1, (q3 hcp).2⟩⟩
        · simp [Mem.get, assoc, beq_ne (Ne.symm e)] at hM
      · by_cases e : id = 0
        · subst e
          simp only [if_true, Option.some.injEq] at hq
          subst hq
          have := hg.old _ hh
          have := (q3 hcp).1
          have := hg.below.size
          omega
        · simp [e] at hq
      · by_cases e : i = 0
        · by_cases e' : i' = 0
          · exact absurd (e.trans e'.symm) hne
          · simp [e'] at h2
        · simp [e] at h1
    · refine ⟨fun b hb' => ⟨⟨(g2.z b hb').1.1, hb'.2.1, fun id q' hq hcp => ?_⟩, (g2.z b hb').2⟩, by show E.k ≤ 1; omega, fun id hid q' hq => by omega, rfl, g2.hs⟩
      by_cases e : id = 0
      · subst e
        simp only [if_true, Option.some.injEq] at hq
        subst hq
        have := (q3 hcp).1
        have := hb'.1
        omega
      · simp [e] at hq
  rcases hcase with rfl | ⟨b, G, arr, rfl, c1, c2, c3, c4⟩
  · exact fin ⟨0, 1, 0, 0⟩ _ rfl rfl (fun h => absurd h (by simp)) (.s 0 0 0 none 0 (by simp) fun q' hq => by
      simp only [if_true, Option.some.injEq] at hq
      subst hq
      exact ⟨Nat.le_refl _, fun _ => ⟨rfl, fun h => absurd h (by simp)⟩⟩)
  · exact fin ⟨b, 1, 0, G⟩ _ rfl rfl (fun _ => ⟨c1, c4, arr, c2, by simpa using c3, fun i h => absurd h (by simp)⟩) (.s 0 0 0 _ G (by simp) fun q' hq => by
      simp only [if_true, Option.some.injEq] at hq
      subst hq
      exact ⟨Nat.le_refl _, fun _ => ⟨by simp, fun _ => by simp⟩⟩)
end Go.Ab
