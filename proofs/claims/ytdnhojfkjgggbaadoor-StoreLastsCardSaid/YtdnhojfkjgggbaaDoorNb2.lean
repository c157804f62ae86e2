/- Numbers' bytes: what is put, and what is taken (plain laws). -/
import Derived.Test.YtdnhojfkjgggbaaDoorNb1
set_option linter.unusedSimpArgs false
set_option linter.unusedVariables false
namespace Go.Ab
open Go Go.Proofs

def High (p : List UInt8) : Prop := ∀ c ∈ p, 128 ≤ c.toNat
def valL : List UInt8 → Nat
  | [] => 0
  | c :: p => c.toNat % 128 + 128 * valL p
theorem valL_lt : ∀ p : List UInt8, valL p < 128 ^ p.length
  | [] => by decide
  | c :: p => by
    have := valL_lt p
    simp only [valL, List.length_cons, Nat.pow_succ]
    omega
theorem valL_snoc (c : UInt8) : ∀ p : List UInt8, valL (p ++ [c]) = valL p + c.toNat % 128 * 128 ^ p.length
  | [] => by simp [valL]
  | d :: p => by
    have := valL_snoc c p
    simp only [List.cons_append, valL, this, List.length_cons, Nat.pow_succ, Nat.mul_add, Nat.add_assoc, Nat.add_left_cancel_iff]
    rw [Nat.mul_comm (128 ^ p.length) 128, Nat.mul_left_comm]
theorem toNat_ofNat8 {n : Nat} (h : n < 256) : (UInt8.ofNat n).toNat = n := by rw [UInt8.toNat_ofNat', Nat.mod_eq_of_lt h]
theorem ofNat_toNat8 (c : UInt8) : UInt8.ofNat c.toNat = c := UInt8.ofNat_toNat
theorem putL_ne (n : Nat) : putL n ≠ [] := by rw [putL]; split <;> simp
theorem putL_pre : ∀ (p : List UInt8), High p → ∀ y, 0 < y → putL (valL p + 128 ^ p.length * y) = p ++ putL y
  | [], _, y, _ => by simp [valL]
  | c :: p, h, y, hy => by
    have hc := h c (by simp)
    have hc2 := u8_lt c
    have ih := putL_pre p (fun d hd => h d (by simp [hd])) y hy
    have hpos : 0 < 128 ^ p.length * y := Nat.mul_pos (Nat.pow_pos (by decide)) hy
    have e : valL (c :: p) + 128 ^ (c :: p).length * y = c.toNat % 128 + 128 * (valL p + 128 ^ p.length * y) := by
      simp only [valL, List.length_cons, Nat.pow_succ, Nat.mul_add, Nat.add_assoc, Nat.add_left_cancel_iff]
      rw [Nat.mul_comm (128 ^ p.length) 128, Nat.mul_assoc]
    rw [e]
    have hz0 : 0 < valL p + 128 ^ p.length * y := by omega
    generalize valL p + 128 ^ p.length * y = z at ih hz0
    have hz : ¬ c.toNat % 128 + 128 * z < 128 := by
      omega
    rw [putL_high hz]
    have e1 : (c.toNat % 128 + 128 * z) / 128 = z := by omega
    have e2 : (c.toNat % 128 + 128 * z) % 128 + 128 = c.toNat := by omega
    rw [e1, e2, ih, ofNat_toNat8]; rfl
theorem putL_conv : ∀ (p : List UInt8), High p → ∀ (v : Nat) (r s : List UInt8), putL v ++ r = p ++ s → ∃ y, v = valL p + 128 ^ p.length * y ∧ putL y ++ r = s ∧ (p ≠ [] → 0 < y)
  | [], _, v, r, s, h => ⟨v, by simp [valL], h, fun h => absurd rfl h⟩
  | c :: p, h, v, r, s, he => by
    have hc := h c (by simp)
    by_cases hv : v < 128
    · rw [putL_low hv] at he
      simp only [List.cons_append, List.cons.injEq] at he
      have := congrArg UInt8.toNat he.1
      rw [toNat_ofNat8 (by omega)] at this
      omega
    · rw [putL_high hv] at he
      simp only [List.cons_append, List.cons.injEq] at he
      obtain ⟨y, h1, h2, h3⟩ := putL_conv p (fun d hd => h d (by simp [hd])) (v / 128) r s he.2
      have hc2 := congrArg UInt8.toNat he.1
      rw [toNat_ofNat8 (by omega)] at hc2
      refine ⟨y, ?_, h2, fun _ => ?_⟩
      · have e : valL (c :: p) + 128 ^ (c :: p).length * y = c.toNat % 128 + 128 * (valL p + 128 ^ p.length * y) := by
          simp only [valL, List.length_cons, Nat.pow_succ, Nat.mul_add, Nat.add_assoc, Nat.add_left_cancel_iff]
          rw [Nat.mul_comm (128 ^ p.length) 128, Nat.mul_assoc]
        rw [e, ← h1]; omega
      · cases p with
        | nil => simp [valL] at h1; omega
        | cons d p => exact h3 (by simp)
theorem putL_head_low {v : Nat} {c : UInt8} {r s : List UInt8} (h : putL v ++ r = c :: s) (hc : c.toNat < 128) : v = c.toNat ∧ r = s := by
  by_cases hv : v < 128
  · rw [putL_low hv] at h
    simp only [List.cons_append, List.cons.injEq, List.nil_append] at h
    have := congrArg UInt8.toNat h.1
    rw [toNat_ofNat8 (by omega)] at this
    exact ⟨this, h.2⟩
  · rw [putL_high hv] at h
    simp only [List.cons_append, List.cons.injEq] at h
    have := congrArg UInt8.toNat h.1
    rw [toNat_ofNat8 (by omega)] at this
    omega
theorem putL_head_high {v : Nat} {c : UInt8} {r s : List UInt8} (h : putL v ++ r = c :: s) (hc : 128 ≤ c.toNat) : 128 ≤ v := by
  by_cases hv : v < 128
  · rw [putL_low hv] at h
    simp only [List.cons_append, List.cons.injEq, List.nil_append] at h
    have := congrArg UInt8.toNat h.1
    rw [toNat_ofNat8 (by omega)] at this
    omega
  · omega

/-- What is taken from bytes. -/
def TakeIs (b : List UInt8) (v : Nat) (rest : List UInt8) (ok : Bool) : Prop :=
  (ok = true ∧ v < 18446744073709551616 ∧ b = putL v ++ rest) ∨ (ok = false ∧ v = 0 ∧ rest = [] ∧ ∀ v' r', v' < 18446744073709551616 → putL v' ++ r' ≠ b)
theorem putL_inj : ∀ (v w : Nat) (r s : List UInt8), putL v ++ r = putL w ++ s → v = w ∧ r = s := by
  intro v
  induction v using Nat.strongRecOn with
  | _ v ih =>
    intro w r s h
    by_cases hw : w < 128
    · rw [putL_low hw] at h
      obtain ⟨h1, h2⟩ := putL_head_low (c := UInt8.ofNat w) (s := s) h (by rw [toNat_ofNat8 (by omega)]; exact hw)
      rw [toNat_ofNat8 (by omega)] at h1
      exact ⟨h1, h2⟩
    · rw [putL_high hw] at h
      have hv := putL_head_high (c := UInt8.ofNat (w % 128 + 128)) (s := putL (w / 128) ++ s) h (by rw [toNat_ofNat8 (by omega)]; omega)
      rw [putL_high (by omega)] at h
      simp only [List.cons_append, List.cons.injEq] at h
      obtain ⟨h1, h2⟩ := ih (v / 128) (by omega) _ _ _ h.2
      have := congrArg UInt8.toNat h.1
      rw [toNat_ofNat8 (by omega), toNat_ofNat8 (by omega)] at this
      exact ⟨by omega, h2⟩
theorem TakeIs.uniq {b : List UInt8} {v w : Nat} {r s : List UInt8} {o p : Bool} (h : TakeIs b v r o) (k : TakeIs b w s p) : v = w ∧ r = s ∧ o = p := by
  rcases h with ⟨rfl, h1, h2⟩ | ⟨rfl, rfl, rfl, h3⟩ <;> rcases k with ⟨rfl, k1, k2⟩ | ⟨rfl, rfl, rfl, k3⟩
  · obtain ⟨e1, e2⟩ := putL_inj v w r s (h2.symm.trans k2); exact ⟨e1, e2, rfl⟩
  · exact absurd h2.symm (k3 _ _ h1)
  · exact absurd k2.symm (h3 _ _ k1)
  · exact ⟨rfl, rfl, rfl⟩
theorem takeIs_ex (b : List UInt8) : ∃ v r o, TakeIs b v r o := by
  by_cases h : ∃ v r, v < 18446744073709551616 ∧ putL v ++ r = b
  · obtain ⟨v, r, h1, h2⟩ := h; exact ⟨v, r, true, .inl ⟨rfl, h1, h2.symm⟩⟩
  · exact ⟨0, [], false, .inr ⟨rfl, rfl, rfl, fun v r h1 h2 => h ⟨v, r, h1, h2⟩⟩⟩
end Go.Ab
