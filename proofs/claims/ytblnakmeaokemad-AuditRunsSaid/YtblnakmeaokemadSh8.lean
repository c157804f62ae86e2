/- Rows: joined, by the program. -/
import Derived.Test.YtblnakmeaokemadSh7
import Derived.Test.YtblnakmeaokemadAbG6
set_option linter.unusedSimpArgs false
set_option linter.unusedVariables false
set_option linter.constructorNameAsVariable false
set_option maxRecDepth 100000
namespace Go.Ab
open Go Go.Proofs Go.RowKit Go.Shelf

/-- A row that nobody writes any more. -/
def RowE (i u : Int) (o : List Int) : AV := .e [.c (.int .i64 i), .c (.int .i64 u), .l 1 (o.map encI)]
theorem under_row {k : Nat} {i u : Int} {o : List Int} : Under k (RowE i u o) := .e _ fun j hj => by
  match j, hj with
  | 0, _ => exact .c _
  | 1, _ => exact .c _
  | 2, _ => exact .l _ _ (by rw [← UnderL, underL_I]; trivial)
theorem rep_rowE {E : Env} {b : Nat} {i u : Int} {o : List Int} {v : Value} (hz : E.Z b) (hb : E.w.heap[b]? = some (.cells #[.int .i64 i, .int .i64 u, v] 88 (0, 0))) (hv : Rep E (.l 1 (o.map encI)) v) (h1 : One v) : Rep E (RowE i u o) (.pointer (some ⟨b, 0, none⟩)) := by
  refine .e _ b 0 (fun j => #[.int .i64 i, .int .i64 u, v].getD j undef) hz (fun j hj => ?_) fun j hj => ?_
  · match j, hj with
    | 0, _ => exact ⟨by simp [World.cell?, hb], rfl⟩
    | 1, _ => exact ⟨by simp [World.cell?, hb], rfl⟩
    | 2, _ => exact ⟨by simp [World.cell?, hb], h1⟩
  · match j, hj with
    | 0, _ => exact .c _ rfl
    | 1, _ => exact .c _ rfl
    | 2, _ => exact hv
def encL (x : Int × Int) : List Value := [.int .i64 x.1, .int .i64 x.2]
theorem rowE_inv {E : Env} {i u : Int} {o : List Int} {v : Value} (h : Rep E (RowE i u o) v) : ∃ b off A c, v = .pointer (some ⟨b, off, none⟩) ∧ E.Z b ∧ E.w.cell? ⟨b, off, none⟩ = some (.int .i64 i) ∧ E.w.cell? ⟨b, off + 1, none⟩ = some (.int .i64 u) ∧
    E.w.cell? ⟨b, off + 2, none⟩ = some (.slice A o.length c) ∧ Ints E.Z E.w A o := by
  unfold RowE at h
  cases h with
  | e cs b off y hz hc hr =>
    have h0 := hr 0 (by simp)
    have h1 := hr 1 (by simp)
    have h2 := hr 2 (by simp)
    have c0 := (hc 0 (by simp)).1
    have c1 := (hc 1 (by simp)).1
    have c2 := (hc 2 (by simp)).1
    simp only [List.getElem_cons_zero, List.getElem_cons_succ] at h0 h1 h2
    generalize y 0 = y0 at h0 c0
    generalize y 1 = y1 at h1 c1
    generalize y 2 = y2 at h2 c2
    cases h0
    cases h1
    obtain ⟨A, cp, rfl, h3⟩ := list_inv h2
    exact ⟨b, off, A, cp, rfl, hz, c0, c1, c2, h3⟩
end Go.Ab
