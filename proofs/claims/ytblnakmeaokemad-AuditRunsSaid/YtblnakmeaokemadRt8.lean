/- Rights: put, taken, moved: by the document. -/
import Derived.Test.YtblnakmeaokemadRt7
import Derived.Test.YtblnakmeaokemadAbG8
set_option linter.unusedSimpArgs false
set_option linter.unusedVariables false
set_option linter.constructorNameAsVariable false
set_option maxRecDepth 100000
namespace Go.Ab
open Go Go.Proofs Go.RowKit

theorem takeR_snoc {l : List RowD} {k : Nat} (h : k < l.length) : (l.take k).map RowV ++ [RowV (rowAt l k)] = (l.take (k + 1)).map RowV := by
  rw [List.take_add_one, List.getElem?_eq_getElem h, rowAt, List.getD_eq_getElem?_getD, List.getElem?_eq_getElem h, List.map_append]
  rfl
theorem frz_R {M : Mem} {id : Nat} {l : List RowD} : (l.map RowV).map (frzE M id) = l.map RowV := frz_data fun x hx => by
  obtain ⟨r, _, rfl⟩ := List.mem_map.1 hx
  rfl
theorem bok_R {M : Mem} {id : Nat} {l : List RowD} : (∀ x ∈ l.map RowV, ∀ c ∈ x.cells, FOk M id c) = True := eq_true fun x hx c hc => by
  obtain ⟨r, _, rfl⟩ := List.mem_map.1 hx
  simp only [RowV, RowA, AV.cells, List.mem_cons, List.not_mem_nil, or_false] at hc
  rcases hc with rfl | rfl | rfl <;> trivial
theorem bok_app {P : AV → Prop} {xs ys : List AV} : (∀ x ∈ xs ++ ys, P x) = ((∀ x ∈ xs, P x) ∧ ∀ x ∈ ys, P x) := propext List.forall_mem_append
/-- Books of the call's own, the row of w with numbers of the call's own (block a). -/
def rowsW (l : List RowD) (w a : Nat) : List AV := (l.map RowV).set w (.g [.c (.int .i64 (rowAt l w).i), .c (.int .i64 (rowAt l w).u), .s a 0 (rowAt l w).o.length])
def cwM (l : List RowD) (w : Nat) : Nat → Mem
  | 0 => ⟨[], 0⟩
  | k + 1 => if k < w then ⟨[(2, ⟨88, 3, (l.take (k + 1)).map RowV⟩)], 3⟩ else ⟨[(2, ⟨88, 3, (rowsW l w 3).take (k + 1)⟩), (3, ⟨2, 1, (rowAt l w).o.map encI⟩)], 4⟩
def cpO : Nat → AV
  | 0 => .c (.slice none 0 0)
  | k + 1 => .s 2 0 (k + 1)
theorem cwM_0 {l : List RowD} {w : Nat} : cwM l w 0 = ⟨[], 0⟩ := rfl
theorem cwM_lt {l : List RowD} {w k : Nat} (h : k < w) : cwM l w (k + 1) = ⟨[(2, ⟨88, 3, (l.take (k + 1)).map RowV⟩)], 3⟩ := if_pos h
theorem cwM_ge {l : List RowD} {w k : Nat} (h : ¬ k < w) : cwM l w (k + 1) = ⟨[(2, ⟨88, 3, (rowsW l w 3).take (k + 1)⟩), (3, ⟨2, 1, (rowAt l w).o.map encI⟩)], 4⟩ := if_neg h
theorem cpO_0 : cpO 0 = .c (.slice none 0 0) := rfl
theorem cpO_s {k : Nat} : cpO (k + 1) = .s 2 0 (k + 1) := rfl
theorem rowsW_len {l : List RowD} {w a : Nat} : (rowsW l w a).length = l.length := by simp [rowsW]
theorem rowsW_lt {l : List RowD} {w a k : Nat} (h : k ≤ w) : (rowsW l w a).take k = (l.take k).map RowV := by
  rw [rowsW, List.take_set_of_le h, List.map_take]
theorem rowsW_at {l : List RowD} {w a : Nat} (h : w < l.length) : (rowsW l w a).take (w + 1) = (l.take w).map RowV ++ [.g [.c (.int .i64 (rowAt l w).i), .c (.int .i64 (rowAt l w).u), .s a 0 (rowAt l w).o.length]] := by
  rw [List.take_add_one, rowsW_lt (Nat.le_refl _), rowsW, List.getElem?_set_self (by simpa using h)]
  rfl
theorem rowsW_gt {l : List RowD} {w a k : Nat} (h : w < k) (hk : k < l.length) : (rowsW l w a).take (k + 1) = (rowsW l w a).take k ++ [RowV (rowAt l k)] := by
  rw [List.take_add_one]
  congr 1
  rw [rowsW, List.getElem?_set_ne (by omega), List.getElem?_map, List.getElem?_eq_getElem hk, rowAt, List.getD_eq_getElem?_getD, List.getElem?_eq_getElem hk]
  rfl
theorem mem_rowsW {l : List RowD} {w a : Nat} {x : AV} {k : Nat} (h : x ∈ (rowsW l w a).take k) : (∃ r, x = RowV r) ∨ x = .g [.c (.int .i64 (rowAt l w).i), .c (.int .i64 (rowAt l w).u), .s a 0 (rowAt l w).o.length] := by
  rcases List.mem_or_eq_of_mem_set (List.mem_of_mem_take h) with h | h
  · obtain ⟨r, _, rfl⟩ := List.mem_map.1 h
    exact .inl ⟨r, rfl⟩
  · exact .inr h
theorem underL_W {l : List RowD} {w a k m : Nat} (h : a < m) : UnderL m ((rowsW l w a).take k) := fun i hi j hj => by
  have := List.getElem_mem hi
  generalize ((rowsW l w a).take k)[i] = x at this hj ⊢
  rcases mem_rowsW this with ⟨r, rfl⟩ | rfl
  · exact under_RowV r _ (List.getElem_mem _)
  · match j, hj with
    | 0, _ => exact .c _
    | 1, _ => exact .c _
    | 2, _ => exact .s _ _ _ h
theorem bok_W {M : Mem} {l : List RowD} {w a id k : Nat} (h : a ≠ id) : (∀ x ∈ (rowsW l w a).take k, ∀ c ∈ x.cells, FOk M id c) = True := eq_true fun x hx c hc => by
  rcases mem_rowsW hx with ⟨r, rfl⟩ | rfl
  · simp only [RowV, RowA, AV.cells, List.mem_cons, List.not_mem_nil, or_false] at hc
    rcases hc with rfl | rfl | rfl <;> trivial
  · simp only [AV.cells, List.mem_cons, List.not_mem_nil, or_false] at hc
    rcases hc with rfl | rfl | rfl
    · trivial
    · trivial
    · exact fun e => absurd e h
theorem frz_W {M : Mem} {l : List RowD} {w a id k : Nat} (h : a ≠ id) : ((rowsW l w a).take k).map (frzE M id) = (rowsW l w a).take k := frz_data fun x hx => by
  rcases mem_rowsW hx with ⟨r, rfl⟩ | rfl
  · rfl
  · simp [frzE, frzC, frz0, beq_ne h]
def c0M (l : List RowD) : Nat → Mem
  | 0 => ⟨[], 0⟩
  | k + 1 => ⟨[(0, ⟨2, 1, (rowAt l 0).o.map encI⟩), (2, ⟨88, 3, (rowsW l 0 0).take (k + 1)⟩)], 3⟩
theorem c0M_0 {l : List RowD} : c0M l 0 = ⟨[], 0⟩ := rfl
theorem c0M_s {l : List RowD} {k : Nat} : c0M l (k + 1) = ⟨[(0, ⟨2, 1, (rowAt l 0).o.map encI⟩), (2, ⟨88, 3, (rowsW l 0 0).take (k + 1)⟩)], 3⟩ := rfl
end Go.Ab
