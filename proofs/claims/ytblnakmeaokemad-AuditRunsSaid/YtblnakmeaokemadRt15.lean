/- Rights: the laws RightsShares, RightsMeet, RightsKeep. -/
import Derived.Test.YtblnakmeaokemadRt14
set_option linter.unusedSimpArgs false
set_option linter.unusedVariables false
set_option linter.constructorNameAsVariable false
set_option maxRecDepth 100000
namespace Go.Ab
open Go Go.Proofs Go.RowKit

theorem newB_at {c : Conf} (h : MayC c) {k : Nat} (hk : k < c.n.toNat) : rowAt (newB c) k = ⟨0, 0, List.replicate c.n.toNat 0⟩ := by
  rw [newB, if_pos h, rowAt, List.getD_eq_getElem?_getD, List.getElem?_eq_getElem (by simpa using hk)]
  simp
theorem newB_length {c : Conf} (h : MayC c) : (newB c).length = c.n.toNat := by rw [newB, if_pos h, List.length_replicate]
theorem rep_getD {n k : Nat} : (List.replicate n (0 : Int)).getD k 0 = 0 := by
  rw [List.getD_eq_getElem?_getD, List.getElem?_replicate]
  split <;> rfl
theorem newB_rows {c : Conf} (h : MayC c) : RowsOk c (newB c) := by
  have hn := h.1
  refine ⟨by rw [newB_length h]; omega, fun k hk => ?_⟩
  rw [newB_length h] at hk
  rw [newB_at h hk]
  have hc := h.2.2.2.2.2.1
  refine ⟨⟨⟨by omega, by omega⟩, by simp; omega, show Within 0 1099511627776 from ⟨by decide, by decide⟩, show Within 0 1099511627776 from ⟨by decide, by decide⟩, rep_getD, fun v hv => ?_⟩, hc.1⟩
  rw [List.eq_of_mem_replicate hv]
  exact ⟨by decide, by decide⟩
theorem newB_of {c : Conf} (h : MayC c) {w : Nat} (hw : w < c.n.toNat) : ofC c (newB c) w = shareC c w := by
  have hn := h.1
  have h1 : came (newB c) w (newB c).length = 0 := by
    unfold came
    rw [isum_congr (g := fun _ => 0) fun j hj => ?_, isum_zero]
    rw [newB_length h] at hj
    rw [newB_at h hj]
    exact rep_getD
  have h2 : sentR (List.replicate c.n.toNat (0 : Int)) = 0 := by
    rw [sent_isum (by simp; omega) fun v hv => by rw [List.eq_of_mem_replicate hv]; exact ⟨by decide, by decide⟩]
    rw [isum_congr (g := fun _ => 0) fun j hj => rep_getD, isum_zero]
  unfold ofC
  rw [newB_at h hw, h1, h2]
  dsimp only
  omega
theorem newB_right {c : Conf} (h : MayC c) : RightB c (newB c) := by
  refine ⟨h, newB_rows h, fun k hk => ?_⟩
  rw [newB_length h] at hk
  rw [newB_of h hk]
  exact (share_bnd c k).1
theorem newB_val {c : Conf} (h : MayC c) : valC c (newB c) = c.k := by
  rw [valC, if_pos (newB_right h), net, isum_congr (g := fun _ => 0) fun j hj => ?_, isum_zero]
  · omega
  · rw [newB_length h] at hj
    rw [newB_at h hj]; rfl
theorem ofR_nat {c : Conf} {l : List RowD} (h : RightB c l) {k : Nat} (hk : k < l.length) : ofR c l k = ofC c l k := by
  have := h.2.1.1
  rw [ofR, if_pos ⟨h, by omega, by omega⟩, Int.toNat_natCast]
theorem putR_ok {c : Conf} {l : List RowD} {w a : Int} (h : (putR c l w a).2 = 0) : RightB c (putR c l w a).1 ∧ valC c (putR c l w a).1 = valC c l + a ∧ 1 ≤ a ∧ a ≤ 1099511627776 := by
  unfold putR at h ⊢
  split at h
  · exact absurd h (by assumption)
  · rename_i h0
    split at h
    · simp at h
    · rename_i h5
      obtain ⟨h1, h2, h3, h4⟩ := ask_zero (Decidable.not_not.1 h0)
      have hw := there_nat h1 h2
      obtain ⟨r1, r2⟩ := put_right h1 hw.2 h3 (by omega)
      simp only [h0, if_false, h5]
      refine ⟨r1, ?_, h3, h4⟩
      rw [valC, valC, if_pos r1, if_pos h1, List.length_set, r2]; omega
theorem takeR_ok {c : Conf} {l : List RowD} {w a : Int} (h : (takeR c l w a).2 = 0) : RightB c (takeR c l w a).1 ∧ valC c (takeR c l w a).1 = valC c l - a ∧ 1 ≤ a ∧ a ≤ 1099511627776 := by
  unfold takeR at h ⊢
  split at h
  · exact absurd h (by assumption)
  · rename_i h0
    split at h
    · simp at h
    · rename_i h5
      split at h
      · simp at h
      · rename_i h6
        obtain ⟨h1, h2, h3, h4⟩ := ask_zero (Decidable.not_not.1 h0)
        have hw := there_nat h1 h2
        obtain ⟨r1, r2⟩ := take_right h1 hw.2 h3 (by omega) (by omega)
        simp only [h0, if_false, h5, h6]
        refine ⟨r1, ?_, h3, h4⟩
        rw [valC, valC, if_pos r1, if_pos h1, List.length_set, r2]; omega
theorem moveR_ok {c : Conf} {l : List RowD} {w to a : Int} (h : (moveR c l w to a).2 = 0) : RightB c (moveR c l w to a).1 ∧ valC c (moveR c l w to a).1 = valC c l ∧ ofR c (moveR c l w to a).1 to = ofR c l to + a ∧ 1 ≤ a ∧ a ≤ 1099511627776 := by
  unfold moveR at h ⊢
  split at h
  · simp at h
  · rename_i hg
    split at h
    · exact absurd h (by assumption)
    · rename_i h0
      split at h
      · simp at h
      · rename_i h5
        split at h
        · simp at h
        · rename_i h6
          obtain ⟨h1, h2, h3, h4⟩ := ask_zero (Decidable.not_not.1 h0)
          have hw := there_nat h1 h2
          have ht : There c to := Decidable.not_not.1 fun k => hg (.inl k)
          have hto := there_nat h1 ht
          have hne : w ≠ to := fun k => hg (.inr k)
          obtain ⟨r1, r2, r3⟩ := move_right h1 hw.2 hto.2 (by omega) h3 (by omega) (by omega)
          simp only [hg, h0, if_false, h5, h6]
          refine ⟨r1, ?_, ?_, h3, h4⟩
          · rw [valC, valC, if_pos r1, if_pos h1, List.length_set, r2]
          · rw [ofR, ofR, if_pos ⟨r1, ht⟩, if_pos ⟨h1, ht⟩, r3]
end Go.Ab
