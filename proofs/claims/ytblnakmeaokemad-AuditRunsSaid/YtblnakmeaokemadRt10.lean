/- Rights: new books. -/
import Derived.Test.YtblnakmeaokemadRt9
import Derived.Test.YtblnakmeaokemadAbG8
set_option linter.unusedSimpArgs false
set_option linter.unusedVariables false
set_option linter.constructorNameAsVariable false
set_option maxRecDepth 100000
namespace Go.Ab
open Go Go.Proofs Go.RowKit

/-- Books without anything. -/
def newB (c : Conf) : List RowD := if MayC c then List.replicate c.n.toNat ⟨0, 0, List.replicate c.n.toNat 0⟩ else []
def nwX (n k : Nat) : List AV := (List.replicate k (⟨0, 0, List.replicate n 0⟩ : RowD)).map RowV ++ List.replicate (n - k) (.g [.c (.int .i64 0), .c (.int .i64 0), .c (.slice none 0 0)])
theorem nwX_len {n k : Nat} (h : k ≤ n) : (nwX n k).length = n := by simp [nwX]; omega
theorem nwX_elem {n k : Nat} (h : k < n) {K : AV → Prop} : Elem (nwX n k) k K = K (.g [.c (.int .i64 0), .c (.int .i64 0), .c (.slice none 0 0)]) := by
  have hk : k < (nwX n k).length := by rw [nwX_len (by omega)]; exact h
  have : (nwX n k)[k] = .g [.c (.int .i64 0), .c (.int .i64 0), .c (.slice none 0 0)] := by
    simp only [nwX]
    rw [List.getElem_append_right (by simp)]
    simp
  simp only [Elem, hk, exists_true_left, this]
theorem nwX_set {n k : Nat} (h : k < n) : (nwX n k).set k (RowV ⟨0, 0, List.replicate n 0⟩) = nwX n (k + 1) := by
  simp only [nwX]
  rw [List.set_append_right _ _ (by simp)]
  simp only [List.length_map, List.length_replicate, Nat.sub_self]
  rw [show n - k = (n - (k + 1)) + 1 by omega, List.replicate_succ, List.set_cons_zero, List.replicate_succ', List.map_append, List.append_assoc]
  rfl
theorem mem_nwX {n k : Nat} {x : AV} (h : x ∈ nwX n k) : (∃ r, x = RowV r) ∨ x = .g [.c (.int .i64 0), .c (.int .i64 0), .c (.slice none 0 0)] := by
  rcases List.mem_append.1 h with h | h
  · obtain ⟨r, _, rfl⟩ := List.mem_map.1 h
    exact .inl ⟨r, rfl⟩
  · exact .inr (List.eq_of_mem_replicate h)
theorem underL_nw {n k m : Nat} : UnderL m (nwX n k) = True := eq_true (underL_mem fun a ha x hx => by
  rcases mem_nwX ha with ⟨r, rfl⟩ | rfl
  · exact under_RowV r x hx
  · simp only [AV.cells, List.mem_cons, List.not_mem_nil, or_false] at hx
    rcases hx with rfl | rfl | rfl <;> exact .c _)
theorem bok_nw {M : Mem} {n k id : Nat} {x : AV} (h : ∀ c ∈ x.cells, FOk M id c) : ∀ y ∈ (nwX n k).set k x, ∀ c ∈ y.cells, FOk M id c := fun y hy c hc => by
  rcases List.mem_or_eq_of_mem_set hy with hy | rfl
  · rcases mem_nwX hy with ⟨r, rfl⟩ | rfl
    · simp only [RowV, RowA, AV.cells, List.mem_cons, List.not_mem_nil, or_false] at hc
      rcases hc with rfl | rfl | rfl <;> trivial
    · simp only [AV.cells, List.mem_cons, List.not_mem_nil, or_false] at hc
      rcases hc with rfl | rfl | rfl <;> trivial
  · exact h c hc
theorem frz_nw {M : Mem} {n k id : Nat} : (nwX n k).map (frzE M id) = nwX n k := frz_data fun x hx => by
  rcases mem_nwX hx with ⟨r, rfl⟩ | rfl <;> rfl
theorem nwX_0 {n : Nat} : nwX n 0 = List.replicate n (.g [.c (.int .i64 0), .c (.int .i64 0), .c (.slice none 0 0)]) := by simp [nwX]
theorem nwX_n {n : Nat} : nwX n n = (List.replicate n (⟨0, 0, List.replicate n 0⟩ : RowD)).map RowV := by simp [nwX]
theorem repI {n : Nat} : List.replicate n (AV.c (.int .i64 0)) = (List.replicate n 0).map encI := by rw [List.map_replicate]; rfl
def rnM (n : Nat) : Nat → Mem
  | 0 => ⟨[], 1⟩
  | k + 1 => ⟨[(3, ⟨88, 3, (List.replicate (k + 1) (⟨0, 0, List.replicate n 0⟩ : RowD)).map RowV⟩)], 4⟩
def rnO : Nat → AV
  | 0 => .c (.slice none 0 0)
  | k + 1 => .s 3 0 (k + 1)
theorem rnM_0 {n : Nat} : rnM n 0 = ⟨[], 1⟩ := rfl
theorem rnM_s {n k : Nat} : rnM n (k + 1) = ⟨[(3, ⟨88, 3, (List.replicate (k + 1) (⟨0, 0, List.replicate n 0⟩ : RowD)).map RowV⟩)], 4⟩ := rfl
theorem rnO_0 : rnO 0 = .c (.slice none 0 0) := rfl
theorem rnO_s {k : Nat} : rnO (k + 1) = .s 3 0 (k + 1) := rfl
theorem repR_snoc {n k : Nat} : (List.replicate k (⟨0, 0, List.replicate n 0⟩ : RowD)).map RowV ++ [.g [.c (.int .i64 0), .c (.int .i64 0), .l 1 ((List.replicate n 0).map encI)]] = (List.replicate (k + 1) (⟨0, 0, List.replicate n 0⟩ : RowD)).map RowV := by
  rw [List.replicate_succ', List.map_append]
  rfl
end Go.Ab
