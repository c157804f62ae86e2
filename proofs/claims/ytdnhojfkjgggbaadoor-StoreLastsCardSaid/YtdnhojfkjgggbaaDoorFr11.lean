/- FrameCuts: frames cut anywhere (plain laws). -/
import Derived.Test.YtdnhojfkjgggbaaDoorFr10
set_option linter.unusedSimpArgs false
set_option linter.unusedVariables false
set_option linter.constructorNameAsVariable false
set_option maxRecDepth 100000
namespace Go.Ab
open Go Go.Proofs Go.RowKit

theorem one_nil : (oneT []).2 = 0 := by
  refine Classical.byContradiction fun h => ?_
  obtain ⟨h1, h2⟩ := oneT_of h
  have := congrArg List.length h1
  have := frL_len (oneT []).1
  simp only [List.length_append, List.length_nil] at *
  omega
theorem sc_all {l : List (List UInt8)} (h : Smalls l) : scP (frs l) = l := scP_eq ⟨[], by simp, one_nil, h⟩
/-- A frame that is cut short is none. -/
theorem one_cut {q r s : List UInt8} (hq : q.length < 18446744073709551616) (h : r ++ s = frL q) (hs : s ≠ []) : (oneT r).2 = 0 := by
  refine Classical.byContradiction fun ho => hs ?_
  obtain ⟨h1, h2⟩ := oneT_of ho
  have hp := oneT_small r
  generalize (oneT r).1 = p at *
  generalize r.drop (oneT r).2 = d at *
  have e : frL q ++ [] = frL p ++ (d ++ s) := by rw [List.append_nil, ← h, h1, List.append_assoc]
  have a1 := oneT_put (r := []) hq
  rw [e, oneT_put hp] at a1
  simp only [Prod.mk.injEq] at a1
  obtain ⟨rfl, _⟩ := a1
  have h3 := congrArg List.length e
  simp only [List.length_append, List.length_nil] at h3
  exact List.eq_nil_of_length_eq_zero (by omega)
/-- Where each ends. -/
def endK (l : List (List UInt8)) (i : Nat) : Nat := (frs (l.take i)).length
theorem frs_take {l : List (List UInt8)} {i : Nat} (h : i < l.length) : frs (l.take (i + 1)) = frs (l.take i) ++ frL (l.getD i []) := by
  have e : l.take (i + 1) = l.take i ++ [l.getD i []] := by
    rw [List.take_add_one, List.getElem?_eq_getElem h, List.getD_eq_getElem?_getD, List.getElem?_eq_getElem h]; rfl
  rw [e, frs_append]; simp [frs]
theorem frs_split (l : List (List UInt8)) (i : Nat) : frs l = frs (l.take i) ++ frs (l.drop i) := by rw [← frs_append, List.take_append_drop]
theorem endK_le (l : List (List UInt8)) (i : Nat) : endK l i ≤ (frs l).length := by
  rw [frs_split l i, List.length_append]; exact Nat.le_add_right _ _
theorem sc_cut {l : List (List UInt8)} (hl : Smalls l) {k w : Nat} (hk : k ≤ (frs l).length) (hw : w ≤ l.length) (h1 : endK l w ≤ k) (h2 : w < l.length → k < endK l (w + 1)) : scP ((frs l).take k) = l.take w := by
  have hsm : Smalls (l.take w) := fun p hp => hl p (List.mem_of_mem_take hp)
  have e := frs_split l w
  have e1 : (frs l).take k = frs (l.take w) ++ (frs (l.drop w)).take (k - endK l w) := by
    rw [e, List.take_append, List.take_of_length_le h1]; rfl
  refine scP_eq ⟨(frs (l.drop w)).take (k - endK l w), e1, ?_, hsm⟩
  by_cases hwl : w < l.length
  · have h3 := h2 hwl
    have hd : l.drop w = l.getD w [] :: l.drop (w + 1) := by
      rw [List.drop_eq_getElem_cons hwl, List.getD_eq_getElem?_getD, List.getElem?_eq_getElem hwl]; rfl
    have hq : (l.getD w []).length < 18446744073709551616 := hl _ (by rw [List.getD_eq_getElem?_getD, List.getElem?_eq_getElem hwl]; exact List.getElem_mem hwl)
    have hn : k - endK l w < (frL (l.getD w [])).length := by
      unfold endK at *
      rw [frs_take hwl, List.length_append] at h3
      omega
    rw [hd]
    have e2 : (frs (l.getD w [] :: l.drop (w + 1))).take (k - endK l w) = (frL (l.getD w [])).take (k - endK l w) := by
      rw [frs, List.take_append_of_le_length (by omega)]
    rw [e2]
    refine one_cut (s := (frL (l.getD w [])).drop (k - endK l w)) hq (List.take_append_drop _ _) fun h => ?_
    have := congrArg List.length h
    simp only [List.length_drop, List.length_nil] at this
    omega
  · have : l.drop w = [] := List.drop_eq_nil_of_le (by omega)
    rw [this]
    simp [frs, one_nil]
/-- All texts' lengths. -/
def lenS : List (List UInt8) → Nat
  | [] => 0
  | p :: l => p.length + lenS l
theorem lenS_append : ∀ a b, lenS (a ++ b) = lenS a + lenS b
  | [], b => by simp [lenS]
  | p :: a, b => by simp only [List.cons_append, lenS, lenS_append a b]; omega
theorem lenS_take {l : List (List UInt8)} {i : Nat} (h : i < l.length) : lenS (l.take (i + 1)) = lenS (l.take i) + (l.getD i []).length := by
  have e : l.take (i + 1) = l.take i ++ [l.getD i []] := by
    rw [List.take_add_one, List.getElem?_eq_getElem h, List.getD_eq_getElem?_getD, List.getElem?_eq_getElem h]; rfl
  rw [e, lenS_append]; simp [lenS]
theorem lenS_mem {l : List (List UInt8)} {p : List UInt8} (h : p ∈ l) : p.length ≤ lenS l := by
  induction l with
  | nil => cases h
  | cons q l ih =>
    rcases List.mem_cons.1 h with rfl | h
    · simp only [lenS]; omega
    · have := ih h
      simp only [lenS]; omega
theorem frs_lenS (l : List (List UInt8)) (h : lenS l < 1000000000) : (frs l).length ≤ 14 * l.length + lenS l := by
  induction l with
  | nil => simp [frs, lenS]
  | cons p l ih =>
    simp only [lenS] at h
    have := ih (by omega)
    have := frL_len p
    have := putL_len10 (n := p.length) (by omega)
    simp only [frs, lenS, List.length_append, List.length_cons]
    omega
end Go.Ab
