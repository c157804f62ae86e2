/- A variable that has nothing yet, taken for a row of the call's own without elements. -/
import Derived.Test.YtblnakmeaokemacAbG8
set_option linter.unusedVariables false
set_option linter.constructorNameAsVariable false
set_option linter.unusedSimpArgs false
namespace Go.Ab
open Go Go.RowKit

def Env.adopt (E : Env) (sz : Nat) : Env := ⟨E.w, fun i => if i = E.k then some ⟨0, sz, 0, 0⟩ else E.ad i, E.k + 1, E.hid⟩
theorem Good.adopt {w0 : World} {E : Env} {M : Mem} (hg : Good w0 E M) (T : TypeId) (sz : Nat) : Good w0 (E.adopt sz) (newMem M ⟨T, sz, []⟩) ∧ Later E (E.adopt sz) := by
  have hne : ∀ id q, E.ad id = some q → id ≠ E.k := fun id q h e => by have := hg.lt id q h; omega
  have hz : ∀ b, E.Z b → (E.adopt sz).Z b := fun b hb => ⟨hb.1, hb.2.1, fun id q hq hcp => by
    simp only [Env.adopt] at hq
    split at hq
    · simp only [Option.some.injEq] at hq; subst hq; simp at hcp
    · exact hb.2.2 id q hq hcp⟩
  have hl : Later E (E.adopt sz) := ⟨fun b hb => ⟨hz b hb, rfl⟩, by simp [Env.adopt], fun id hid q' hq => by
    simp only [Env.adopt] at hq
    rw [if_neg (by omega)] at hq
    exact ⟨q', hq, Nat.le_refl _, fun _ => rfl⟩, rfl, fun _ _ => rfl⟩
  have hget : ∀ id, (newMem M ⟨T, sz, []⟩).get id = if id = E.k then some ⟨T, sz, []⟩ else M.get id := fun id => by
    show assoc (insert M.l M.k _) id = _
    rw [assoc_insert, hg.k]
    by_cases e : id = E.k
    · subst e; simp
    · simp [e, Ne.symm e, Mem.get]
  refine ⟨⟨hg.below, by show M.k + 1 = E.k + 1; rw [hg.k], fun id q hq => ?_, fun id hM => ?_, fun id blk hM => ?_, fun id q hq hcp => ?_, hg.old, fun i i' q q' hi h1 h2 c1 c2 => ?_⟩, hl⟩
  · simp only [Env.adopt] at hq ⊢
    split at hq
    · omega
    · have := hg.lt id q hq; omega
  · rw [hget] at hM
    simp only [Env.adopt]
    split at hM
    · cases hM
    · rename_i e; rw [if_neg e]; exact hg.gone id hM
  · rw [hget] at hM
    simp only [Env.adopt]
    split at hM
    · rename_i e
      simp only [Option.some.injEq] at hM
      subst hM
      exact ⟨_, by rw [if_pos e], rfl, rfl, Nat.le_refl _, fun h => by simp at h⟩
    · rename_i e
      obtain ⟨q, a1, a2, a3, a4, a5⟩ := hg.held id blk hM
      refine ⟨q, by rw [if_neg e]; exact a1, a2, a3, a4, fun hcp => ⟨(a5 hcp).1, ?_⟩⟩
      obtain ⟨d0, arr, d1, d2, d3⟩ := (a5 hcp).2
      refine ⟨d0, arr, d1, d2, fun i hi => ⟨(d3 i hi).1, fun j hj => ?_⟩⟩
      obtain ⟨y, y1, y2, y3⟩ := (d3 i hi).2 j hj
      exact ⟨y, y1, y2, y3.later hl⟩
  · simp only [Env.adopt] at hq
    split at hq
    · simp only [Option.some.injEq] at hq; subst hq; simp at hcp
    · exact hg.hid id q hq hcp
  · simp only [Env.adopt] at h1 h2
    split at h1
    · simp only [Option.some.injEq] at h1; subst h1; simp at c1
    · split at h2
      · simp only [Option.some.injEq] at h2; subst h2; simp at c2
      · exact hg.inj i i' q q' hi h1 h2 c1 c2
theorem adopt_rule {P : Program} {c : Code} {K : Exit → ASt → Prop} {sl : Slots} {m : Mem} {N : Nat} (t : Nat) (T : TypeId) (sz : Nat) (ht : Slots.get sl t = .c (.slice none 0 0)) (h : ACode P c K ⟨insert sl t (.s m.k 0 0), newMem m ⟨T, sz, []⟩, N⟩) : ACode P c K ⟨sl, m, N⟩ := fun ro w0 E D a hst => by
  obtain ⟨hg, hl⟩ := hst.g.adopt T sz
  have hE : (E.adopt sz).w = E.w := rfl
  rw [← hE]
  refine Code.wpIn_mono (fun _ _ _ ⟨E', s', h1, h2, h3, h4⟩ => ⟨E', s', h1, h2, hl.trans h3, h4⟩) (h ro w0 (E.adopt sz) D a ⟨hg, fun u => ?_, hst.n, hst.d⟩)
  unfold Slots.get
  rw [assoc_insert]
  by_cases e : t = u
  · subst e
    have hr := hst.r t
    rw [show Slots.get sl t = _ from ht] at hr
    generalize a.tmps.getD t undef = v at hr ⊢
    have hv : v = .slice none 0 0 := by cases hr; rfl
    simp only [if_true, Option.getD_some]
    rw [hv]
    have hk : m.k = E.k := hst.g.k
    refine .s _ 0 0 none 0 (by show m.k < E.k + 1; omega) fun q hq => ?_
    simp only [Env.adopt, hk, if_true, Option.some.injEq] at hq
    subst hq
    exact ⟨Nat.le_refl _, fun _ => ⟨rfl, fun h => by simp at h⟩⟩
  · simp only [if_neg e]
    exact (hst.r u).later hl
end Go.Ab
