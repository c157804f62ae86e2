/- Paint: what is taken: the books with which bytes begin, or none (plain laws). -/
import Derived.Test.YtblnakmeaokemacPn2
import Derived.Test.YtblnakmeaokemacRt12
set_option linter.unusedSimpArgs false
set_option linter.unusedVariables false
set_option linter.constructorNameAsVariable false
set_option maxRecDepth 100000
namespace Go.Ab
open Go Go.Proofs Go.RowKit

theorem tk_put {v : Nat} {r : List UInt8} (h : v < 18446744073709551616) : tk (putL v ++ r) = (v, r, true) := by
  obtain ⟨h1, h2, h3⟩ := (tk_is (putL v ++ r)).uniq (.inl ⟨rfl, h, rfl⟩)
  exact Prod.ext h1 (Prod.ext h2 h3)
theorem wrap_nat63 {v : Nat} (h : v < M63) : IntKind.i64.wrap (v : Int) = v := by
  have : v < 9223372036854775808 := h
  exact wrap_i64 (by omega) (by omega)
theorem uNat_nn {v : Int} (h : 0 ≤ v) (h2 : v < 9223372036854775808) : ((uNat v : Nat) : Int) = v := by unfold uNat; omega
theorem num_ok {B : Nat} (hB : B ≤ M63) {b : List UInt8} (h : (num B b).2.2 = true) : b = putL (uNat (num B b).1) ++ (num B b).2.1 ∧ 0 ≤ (num B b).1 ∧ (num B b).1 < B := by
  simp only [num, Bool.and_eq_true, decide_eq_true_eq] at h ⊢
  have hw := wrap_nat63 (v := (tk b).1) (by omega)
  rw [hw]
  rcases tk_is b with ⟨_, h1, h2⟩ | ⟨h1, _⟩
  · refine ⟨?_, by omega, by omega⟩
    have : uNat ((tk b).1 : Int) = (tk b).1 := by unfold uNat; omega
    rw [this]; exact h2
  · rw [h.1] at h1; cases h1
theorem num_put {B : Nat} (hB : B ≤ M63) {v : Int} {r : List UInt8} (h1 : 0 ≤ v) (h2 : v < B) : num B (putL (uNat v) ++ r) = (v, r, true) := by
  have h3 : v < 9223372036854775808 := by
    have : B ≤ 9223372036854775808 := hB
    omega
  have e := uNat_nn h1 h3
  have hl : uNat v < B := by omega
  simp only [num, tk_put (uNat_lt v), Bool.true_and, decide_eq_true hl]
  rw [e]
  exact Prod.ext (wrap_i64 (by omega) h3) rfl
/-- Numbers that were put are taken as they were. -/
theorem many_put {B : Nat} (hB : B ≤ M63) : ∀ (xs : List Int) (r : List UInt8), (∀ v ∈ xs, 0 ≤ v ∧ v < B) → manyL (num B) xs.length (encN xs ++ r) = (xs, r)
  | [], r, _ => rfl
  | v :: xs, r, h => by
    have hv := h v (by simp)
    have ih := many_put hB xs r fun w hw => h w (by simp [hw])
    have e := num_put hB (r := encN xs ++ r) hv.1 hv.2
    simp only [encN, List.length_cons, List.append_assoc, manyL, e, if_true, ih]
/-- What was taken is what the bytes say. -/
theorem many_of {B : Nat} (hB : B ≤ M63) : ∀ n b, b = encN (manyL (num B) n b).1 ++ (manyL (num B) n b).2
  | 0, b => by simp [manyL, encN]
  | n + 1, b => by
    simp only [manyL]
    split
    · rename_i h
      have h1 := num_ok hB h
      have ih := many_of hB n (num B b).2.1
      simp only [encN, List.append_assoc, ← ih]
      exact h1.1
    · simp [encN]
theorem row_put {B n : Nat} (hB : B ≤ M63) {w : RowD} {r : List UInt8} (hl : w.o.length = n) (h : ∀ v ∈ numsR w, 0 ≤ v ∧ v < B) : rowT B n (encN (numsR w) ++ r) = (w, r, true) := by
  have := many_put hB (numsR w) r h
  rw [numsR_len, hl] at this
  rw [rowT, this, if_pos (by rw [numsR_len, hl])]
  simp [numsR]
theorem row_of {B n : Nat} (hB : B ≤ M63) {b : List UInt8} (h : (rowT B n b).2.2 = true) : b = encN (numsR (rowT B n b).1) ++ (rowT B n b).2.1 ∧ (rowT B n b).1.o.length = n := by
  unfold rowT at h ⊢
  split
  · rename_i hl
    have h1 := many_of hB (n + 2) b
    generalize manyL (num B) (n + 2) b = m at h1 hl ⊢
    obtain ⟨xs, r⟩ := m
    dsimp only at h1 hl ⊢
    match xs, hl with
    | x :: y :: zs, hl => exact ⟨by simpa [numsR] using h1, by simpa using hl⟩
  · rename_i hl
    rw [if_neg hl] at h; cases h
theorem rows_put {B n : Nat} (hB : B ≤ M63) : ∀ (l : List RowD) (r : List UInt8), (∀ w ∈ l, w.o.length = n ∧ ∀ v ∈ numsR w, 0 ≤ v ∧ v < B) → manyL (rowT B n) l.length (encN (numsB l) ++ r) = (l, r)
  | [], r, _ => rfl
  | w :: l, r, h => by
    have hw := h w (by simp)
    have ih := rows_put hB l r fun x hx => h x (by simp [hx])
    have e := row_put hB (r := encN (numsB l) ++ r) hw.1 hw.2
    simp only [numsB, encN_append, List.length_cons, List.append_assoc, manyL, e, if_true, ih]
theorem rows_of {B n : Nat} (hB : B ≤ M63) : ∀ m b, b = encN (numsB (manyL (rowT B n) m b).1) ++ (manyL (rowT B n) m b).2 ∧ ∀ w ∈ (manyL (rowT B n) m b).1, w.o.length = n
  | 0, b => by simp [manyL, encN, numsB]
  | m + 1, b => by
    simp only [manyL]
    split
    · rename_i h
      have h1 := row_of hB h
      have ih := rows_of (n := n) hB m (rowT B n b).2.1
      refine ⟨?_, fun w hw => ?_⟩
      · simp only [numsB, encN_append, List.append_assoc, ← ih.1]
        exact h1.1
      · rcases List.mem_cons.1 hw with rfl | hw
        · exact h1.2
        · exact ih.2 w hw
    · exact ⟨by simp [encN, numsB], fun w hw => by simp at hw⟩
/-- The books with which bytes begin. -/
noncomputable def takeB (B : Nat) (c : Conf) (b : List UInt8) : List RowD × List UInt8 × Bool :=
  if MayC c ∧ (manyL (rowT B c.n.toNat) c.n.toNat b).1.length = c.n.toNat ∧ RightB c (manyL (rowT B c.n.toNat) c.n.toNat b).1 then ((manyL (rowT B c.n.toNat) c.n.toNat b).1, (manyL (rowT B c.n.toNat) c.n.toNat b).2, true) else ([], [], false)
def BooksIs (c : Conf) (b : List UInt8) (l : List RowD) (r : List UInt8) (o : Bool) : Prop :=
  (o = true ∧ RightB c l ∧ b = encN (numsB l) ++ r) ∨ (o = false ∧ l = [] ∧ r = [] ∧ ∀ l' r', RightB c l' → encN (numsB l') ++ r' ≠ b)
theorem right_mem {c : Conf} {l : List RowD} (h : RightB c l) {w : RowD} (hw : w ∈ l) : w.o.length = c.n.toNat ∧ ∀ v ∈ numsR w, 0 ≤ v ∧ v < 4611686018427387905 := by
  obtain ⟨k, hk, rfl⟩ := List.getElem_of_mem hw
  have e : l[k] = rowAt l k := by rw [rowAt, List.getD_eq_getElem?_getD, List.getElem?_eq_getElem hk]; rfl
  rw [e]
  have hr := h.2.1.row h.1 hk
  have hn := h.2.1.1
  refine ⟨by omega, fun v hv => ?_⟩
  simp only [numsR, List.mem_cons] at hv
  rcases hv with rfl | rfl | hv
  · omega
  · omega
  · have := hr.2.2.2.2.1 v hv
    unfold Within at this; omega
theorem books_put {B : Nat} (hB : B ≤ M63) (hB2 : 4611686018427387905 ≤ B) {c : Conf} {l : List RowD} {r : List UInt8} (h : RightB c l) : takeB B c (encN (numsB l) ++ r) = (l, r, true) := by
  have hn := h.2.1.1
  have hm := rows_put hB (n := c.n.toNat) l r fun w hw => ⟨(right_mem h hw).1, fun v hv => by have := (right_mem h hw).2 v hv; omega⟩
  have e : l.length = c.n.toNat := by omega
  rw [e] at hm
  rw [takeB, hm, if_pos ⟨h.1, e, h⟩]
theorem takeB_is {B : Nat} (hB : B ≤ M63) (hB2 : 4611686018427387905 ≤ B) (c : Conf) (b : List UInt8) : BooksIs c b (takeB B c b).1 (takeB B c b).2.1 (takeB B c b).2.2 := by
  by_cases h : MayC c ∧ (manyL (rowT B c.n.toNat) c.n.toNat b).1.length = c.n.toNat ∧ RightB c (manyL (rowT B c.n.toNat) c.n.toNat b).1
  · rw [takeB, if_pos h]
    exact .inl ⟨rfl, h.2.2, (rows_of hB _ b).1⟩
  · have e : takeB B c b = ([], [], false) := by rw [takeB, if_neg h]
    rw [e]
    refine .inr ⟨rfl, rfl, rfl, fun l' r' hr he => ?_⟩
    have := books_put hB hB2 (r := r') hr
    rw [he, e] at this
    cases this
theorem BooksIs.uniq {c : Conf} {b : List UInt8} {l m : List RowD} {r s : List UInt8} {o p : Bool} (h : BooksIs c b l r o) (k : BooksIs c b m s p) : l = m ∧ r = s ∧ o = p := by
  rcases h with ⟨rfl, h1, h2⟩ | ⟨rfl, rfl, rfl, h3⟩ <;> rcases k with ⟨rfl, k1, k2⟩ | ⟨rfl, rfl, rfl, k3⟩
  · have e1 := books_put (Nat.le_refl M63) (by decide) (r := r) h1
    have e2 := books_put (Nat.le_refl M63) (by decide) (r := s) k1
    rw [← h2] at e1
    rw [← k2, e1] at e2
    simp only [Prod.mk.injEq] at e2
    exact ⟨e2.1, e2.2.1, rfl⟩
  · exact absurd h2.symm (k3 _ _ h1)
  · exact absurd k2.symm (h3 _ _ k1)
  · exact ⟨rfl, rfl, rfl⟩
theorem takeB_same {B : Nat} (hB : B ≤ M63) (hB2 : 4611686018427387905 ≤ B) (c : Conf) (b : List UInt8) : takeB B c b = takeB M63 c b := by
  obtain ⟨h1, h2, h3⟩ := (takeB_is hB hB2 c b).uniq (takeB_is (Nat.le_refl _) (by decide) c b)
  exact Prod.ext h1 (Prod.ext h2 h3)
theorem takeB_lens {c : Conf} {B m n : Nat} {b : List UInt8} (hB : B ≤ M63) (hm : m ≤ 16) (hn : n ≤ 16) : Lens (manyL (rowT B n) m b).1 :=
  lens_dec ⟨by have := manyL_len (take := rowT B n) m b; omega, fun w hw => by have := (rows_of hB m b).2 w hw; omega⟩
end Go.Ab
