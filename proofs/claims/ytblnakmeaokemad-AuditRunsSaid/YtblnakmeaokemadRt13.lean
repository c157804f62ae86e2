/- Rights: the laws RightsTells, RightsDo, RightsJoins. -/
import Derived.Test.YtblnakmeaokemadRt12
set_option linter.unusedSimpArgs false
set_option linter.unusedVariables false
set_option linter.constructorNameAsVariable false
set_option maxRecDepth 100000
namespace Go.Ab
open Go Go.Proofs Go.RowKit

theorem short_lens {l : List RowD} (h : ShortB l) : Lens l := by
  unfold ShortB shN at h
  have hn : ∀ j, 0 ≤ (((rowAt l j).o.length : Nat) : Int) := fun j => by omega
  have h0 := isum_nn (f := fun j => ((rowAt l j).o.length : Int)) (k := l.length) fun j _ => hn j
  refine ⟨by omega, fun k => ?_⟩
  by_cases hk : k < l.length
  · have h1 := isum_mono (f := fun j => ((rowAt l j).o.length : Int)) hn (k := k + 1) (m := l.length) hk
    have h2 := isum_nn (f := fun j => ((rowAt l j).o.length : Int)) (k := k) fun j _ => hn j
    simp only [isum] at h1
    omega
  · rw [rowAt_ge (by omega)]; simp
theorem newB_lens (c : Conf) : Lens (newB c) := by
  unfold newB
  split
  · rename_i h
    have := h.1
    refine ⟨by simp; omega, fun k => ?_⟩
    by_cases hk : k < c.n.toNat
    · rw [rowAt, List.getD_eq_getElem?_getD, List.getElem?_eq_getElem (by simpa using hk)]
      simp; omega
    · rw [rowAt_ge (by simp; omega)]; simp
  · exact ⟨by simp, fun k => by rw [rowAt_ge (by simp)]; simp⟩
def cdM (l : List RowD) : Nat → Mem
  | 0 => ⟨[], 0⟩
  | k + 1 => ⟨[(2, ⟨88, 3, (l.take (k + 1)).map RowV⟩)], 3⟩
theorem cdM_0 {l : List RowD} : cdM l 0 = ⟨[], 0⟩ := rfl
theorem cdM_s {l : List RowD} {k : Nat} : cdM l (k + 1) = ⟨[(2, ⟨88, 3, (l.take (k + 1)).map RowV⟩)], 3⟩ := rfl
theorem set_lens {l : List RowD} (hl : Lens l) (w : Nat) (r : RowD) (hr : r.o.length < 1000000000) : Lens (l.set w r) := by
  refine ⟨by simpa using hl.1, fun k => ?_⟩
  simp only [rowAt, List.getD_eq_getElem?_getD, List.getElem?_set]
  split
  · split
    · simpa using hr
    · simp
  · have := hl.2 k
    simpa [rowAt, List.getD_eq_getElem?_getD] using this
theorem nil_lens : Lens [] := ⟨by simp, fun k => by simp [rowAt]⟩
theorem putR_lens {c : Conf} {l : List RowD} {w a : Int} (hl : Lens l) : Lens (putR c l w a).1 := by
  unfold putR
  split
  · exact nil_lens
  · split
    · exact nil_lens
    · exact set_lens hl _ _ (hl.2 _)
theorem takeR_lens {c : Conf} {l : List RowD} {w a : Int} (hl : Lens l) : Lens (takeR c l w a).1 := by
  unfold takeR
  split
  · exact nil_lens
  · split
    · exact nil_lens
    · split
      · exact nil_lens
      · exact set_lens hl _ _ (hl.2 _)
theorem moveR_lens {c : Conf} {l : List RowD} {w to a : Int} (hl : Lens l) : Lens (moveR c l w to a).1 := by
  unfold moveR
  split
  · exact nil_lens
  · split
    · exact nil_lens
    · split
      · exact nil_lens
      · split
        · exact nil_lens
        · exact set_lens hl _ _ (by simpa using hl.2 _)
theorem joinR_lens {c : Conf} {a b : List RowD} (ha : Lens a) : Lens (joinR c a b).1 := by
  unfold joinR
  split
  · exact nil_lens
  · split
    · exact nil_lens
    · exact joinB_lens ha
end Go.Ab
