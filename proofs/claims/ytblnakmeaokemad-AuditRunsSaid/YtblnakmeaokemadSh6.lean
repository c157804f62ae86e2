/- Rows: two at a time. -/
import Derived.Test.YtblnakmeaokemadSh5
import Derived.RangeFuncNested
import Derived.RangeFuncBound
import Derived.RangeFuncCalls
import Derived.RangeFuncLeaves
import Derived.RangeFuncBox
import Derived.Shelf.Abstract
import Derived.Shelf.RegionOpen
import Derived.OwnWalkIn
import Derived.TacticsInMore
import Derived.LoopNIn
import Derived.LoopIn
set_option linter.unusedSimpArgs false
set_option linter.unusedVariables false
set_option linter.constructorNameAsVariable false
set_option maxRecDepth 100000
namespace Go.Ab
open Go Go.Proofs Go.RowKit Go.Shelf
attribute [local go_sem] Oper.semAt_some

theorem KZ.put {Z : Nat → Prop} {w : World} (hz : ∀ b, Z b → b < w.heap.size) (W : World) (l : Nat) (o o' : Obj) (hl : w.heap.size ≤ l) (_ : W.heap[l]? = some o) (_ : o.isCells = false) (_ : o.isWalk = false) : KZ Z W (W.putObj l o') :=
  ⟨fun b hb => World.putObj_heap_other (by have := hz b hb; omega)⟩
/-- A slice value that holds whole numbers, in blocks of Z. -/
def Ints (Z : Nat → Prop) (W : World) (A : Option Addr) (zs : List Int) : Prop :=
  0 < zs.length → ∃ b off, A = some ⟨b, off, none⟩ ∧ Z b ∧ ∀ k, k < zs.length → W.cell? ⟨b, off + k, none⟩ = some (.int .i64 (zs.getD k 0))
/-- What pairs hands over. -/
def prs (i u j v : Int) (o p : List Int) (k : Nat) : List (Int × Int) := (i, j) :: (u, v) :: (o.zip p).take k
theorem prs_len {i u j v : Int} {o p : List Int} {k : Nat} (h : k ≤ o.length) (h' : o.length = p.length) : (prs i u j v o p k).length = k + 2 := by
  simp only [prs, List.length_cons, List.length_take, List.length_zip]; omega
theorem prs_succ {i u j v : Int} {o p : List Int} {k : Nat} (h : k < o.length) (h' : o.length = p.length) : prs i u j v o p (k + 1) = prs i u j v o p k ++ [(o.getD k 0, p.getD k 0)] := by
  simp only [prs, List.cons_append]
  congr 2
  have hz : k < (o.zip p).length := by simp; omega
  rw [List.take_add_one, List.getElem?_eq_getElem hz]
  simp only [Option.toList_some, List.getElem_zip, List.getD_eq_getElem?_getD, List.getElem?_eq_getElem h, List.getElem?_eq_getElem (show k < p.length by omega), Option.getD_some]

end Go.Ab
