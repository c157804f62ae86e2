/- Rights: books joined. -/
import Derived.Test.YtblnakmeaokemadRt10
set_option linter.unusedSimpArgs false
set_option linter.unusedVariables false
set_option linter.constructorNameAsVariable false
set_option maxRecDepth 100000
namespace Go.Ab
open Go Go.Proofs Go.RowKit

def joinD (a b : RowD) : RowD := ⟨max a.i b.i, max a.u b.u, List.zipWith max a.o b.o⟩
def joinB (a b : List RowD) : List RowD := List.zipWith joinD a b
theorem joinB_len {a b : List RowD} (h : a.length = b.length) : (joinB a b).length = a.length := by simp [joinB, h]
theorem joinB_at {a b : List RowD} {k : Nat} (h : k < a.length) (h' : k < b.length) : rowAt (joinB a b) k = joinD (rowAt a k) (rowAt b k) := by
  simp only [rowAt, joinB, List.getD_eq_getElem?_getD]
  rw [List.getElem?_eq_getElem h, List.getElem?_eq_getElem h', List.getElem?_eq_getElem (by simp; omega)]
  simp
def joinR (c : Conf) (a b : List RowD) : List RowD × Int := if ¬ (RightB c a ∧ RightB c b) then ([], 1) else if ¬ RightB c (joinB a b) then ([], 7) else (joinB a b, 0)
/-- Rows of the call's own: the first k of l are there. -/
def fiX (l : List RowD) (k : Nat) : List AV := (l.take k).map RowV ++ List.replicate (l.length - k) (.g [.c (.int .i64 0), .c (.int .i64 0), .c (.slice none 0 0)])
theorem fiX_len {l : List RowD} {k : Nat} (h : k ≤ l.length) : (fiX l k).length = l.length := by simp [fiX]; omega
theorem fiX_elem {l : List RowD} {k : Nat} (h : k < l.length) {K : AV → Prop} : Elem (fiX l k) k K = K (.g [.c (.int .i64 0), .c (.int .i64 0), .c (.slice none 0 0)]) := by
  have hk : k < (fiX l k).length := by rw [fiX_len (by omega)]; exact h
  have : (fiX l k)[k] = .g [.c (.int .i64 0), .c (.int .i64 0), .c (.slice none 0 0)] := by
    simp only [fiX]
    rw [List.getElem_append_right (by simp; omega)]
    simp
  simp only [Elem, hk, exists_true_left, this]
theorem fiX_set {l : List RowD} {k : Nat} (h : k < l.length) : (fiX l k).set k (RowV (rowAt l k)) = fiX l (k + 1) := by
  simp only [fiX]
  have hl : ((l.take k).map RowV).length = k := by simp; omega
  rw [List.set_append_right _ _ (by omega), hl, Nat.sub_self, show l.length - k = (l.length - (k + 1)) + 1 by omega, List.replicate_succ, List.set_cons_zero, ← takeR_snoc h, List.append_assoc]
  rfl
theorem fiX_0 {l : List RowD} : fiX l 0 = List.replicate l.length (.g [.c (.int .i64 0), .c (.int .i64 0), .c (.slice none 0 0)]) := by simp [fiX]
theorem fiX_n {l : List RowD} : fiX l l.length = l.map RowV := by simp [fiX]
theorem mem_fiX {l : List RowD} {k : Nat} {x : AV} (h : x ∈ fiX l k) : (∃ r, x = RowV r) ∨ x = .g [.c (.int .i64 0), .c (.int .i64 0), .c (.slice none 0 0)] := by
  rcases List.mem_append.1 h with h | h
  · obtain ⟨r, _, rfl⟩ := List.mem_map.1 h
    exact .inl ⟨r, rfl⟩
  · exact .inr (List.eq_of_mem_replicate h)
theorem underL_fi {l : List RowD} {k m : Nat} : UnderL m (fiX l k) = True := eq_true (underL_mem fun a ha x hx => by
  rcases mem_fiX ha with ⟨r, rfl⟩ | rfl
  · exact under_RowV r x hx
  · simp only [AV.cells, List.mem_cons, List.not_mem_nil, or_false] at hx
    rcases hx with rfl | rfl | rfl <;> exact .c _)
theorem join_at {c : Conf} {a b : List RowD} (ha : RightB c a) (hb : RightB c b) {k : Nat} (hk : k < a.length) : (rowAt a k).o.length = (rowAt b k).o.length ∧ (rowAt a k).o.length < 1000000000 := by
  have h1 := ha.2.1.row ha.1 hk
  have h2 := ha.2.1.1
  have h3 := hb.2.1.1
  have h4 := hb.2.1.row hb.1 (w := k) (by omega)
  omega
theorem okR_rowT {r : RowD} {v : Value} : OkR (Under 0) (.t [RowV r, .c v]) := ⟨⟨.c _, .c _, .l _ _ (pureI _), trivial⟩, .c _, trivial⟩
theorem joinB_lens {a b : List RowD} (ha : Lens a) : Lens (joinB a b) := by
  refine ⟨by simp [joinB]; have := ha.1; omega, fun k => ?_⟩
  by_cases h : k < (joinB a b).length
  · have h2 : k < a.length ∧ k < b.length := by simp [joinB] at h; omega
    rw [joinB_at h2.1 h2.2]
    have := ha.2 k
    simp [joinD]; omega
  · rw [rowAt_ge (by omega)]; simp
def jnM (l : List RowD) : Nat → Mem
  | 0 => ⟨[], 1⟩
  | k + 1 => ⟨[(3, ⟨88, 3, (l.take (k + 1)).map RowV⟩)], 4⟩
theorem jnM_0 {l : List RowD} : jnM l 0 = ⟨[], 1⟩ := rfl
theorem jnM_s {l : List RowD} {k : Nat} : jnM l (k + 1) = ⟨[(3, ⟨88, 3, (l.take (k + 1)).map RowV⟩)], 4⟩ := rfl
end Go.Ab
