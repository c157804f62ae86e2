/- Rows: joined, by the document. -/
import Derived.Test.YtblnakmeaokemadSh1
set_option linter.unusedSimpArgs false
set_option linter.unusedVariables false
set_option linter.constructorNameAsVariable false
set_option maxRecDepth 100000
namespace Go.Ab
open Go Go.Proofs

def rj_base (i u j v : Int) (o p : List Int) (x : AV) : List (Nat × Blk) :=
  [(0, ⟨88, 3, [RowA i u o]⟩), (1, ⟨88, 3, [RowA j v p]⟩), (2, ⟨88, 3, [.g [.c (.int .i64 0), .c (.int .i64 0), .c (.slice none 0 0)]]⟩), (3, ⟨88, 3, [.g [.c (.int .i64 (max i j)), .c (.int .i64 (max u v)), x]]⟩)]
def rj_slots (k : Nat) : Slots := [(2, .p 0 0 0 1), (3, .p 1 0 0 1), (4, .p 2 0 0 1), (5, .c (.bool false)), (6, .p 3 0 0 1), (7, .c (.int .i64 k))]
def rj_I (i u j v : Int) (o p : List Int) : Nat → ASt
  | 0 => ⟨rj_slots 0, ⟨rj_base i u j v o p (.c (.slice none 0 0)), 4⟩, 51⟩
  | k + 1 => ⟨rj_slots (k + 1), ⟨rj_base i u j v o p (.s 4 0 (k + 1)) ++ [(4, ⟨2, 1, ((List.zipWith max o p).take (k + 1)).map encI⟩)], 5⟩, 51⟩
theorem zip_take1 {o p : List Int} (h : 0 < o.length) (h' : 0 < p.length) : (List.zipWith max o p).take 1 = [max (o.getD 0 0) (p.getD 0 0)] := by
  match o, p, h, h' with
  | a :: o, b :: p, _, _ => simp
theorem zip_take {o p : List Int} {k : Nat} (h : k < o.length) (h' : k < p.length) : (List.zipWith max o p).take (k + 1) = (List.zipWith max o p).take k ++ [max (o.getD k 0) (p.getD k 0)] := by
  rw [List.take_add_one, List.getElem?_zipWith, List.getElem?_eq_getElem h, List.getElem?_eq_getElem h', List.getD_eq_getElem?_getD, List.getD_eq_getElem?_getD, List.getElem?_eq_getElem h, List.getElem?_eq_getElem h']
  rfl
theorem exp_row {M : Mem} {a b v : Value} {id n : Nat} {T : TypeId} {sz : Nat} {xs : List AV} (h : M.get id = some ⟨T, sz, xs⟩) (hn : n = xs.length) (hp : PureL xs) :
    Exp M (.t [.g [.c a, .c b, .s id 0 n], .c v]) (.t [.g [.c a, .c b, .l sz xs], .c v]) := by
  refine ⟨[], [id], ?_, by simp, by simp⟩
  have hc : ∀ z, ExpC M (.c z) (.c z) [] [] := fun z => expC_pure (.refl _) (.c _)
  refine ⟨[], [], [id], [], rfl, rfl, ⟨[], [], [], [id], rfl, rfl, hc _, [], [], [], [id], rfl, rfl, hc _, [], [], [id], [], rfl, rfl, ⟨rfl, rfl, _, h, by simpa using hn, rfl, by simp, hp⟩, rfl, rfl⟩, [], [], [], [], rfl, rfl, hc _, rfl, rfl⟩
end Go.Ab
