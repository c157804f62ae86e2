/- Rows: joined, by the program: the walk. -/
import Derived.Test.YtblnakmeaokemadSh8
set_option linter.unusedSimpArgs false
set_option linter.unusedVariables false
set_option linter.constructorNameAsVariable false
set_option maxRecDepth 100000
namespace Go.Ab
open Go Go.Proofs Go.RowKit

theorem arg_row {M : Mem} {ids : List Nat} {i u : Int} {o : List Int} : VOkA M (RowA i u o) ∧ (∀ k ∈ idsA (RowA i u o), k ∈ ids) ∧ Weak (viewA M (RowA i u o)) (RowA i u o) ∧ Under 0 (RowA i u o) :=
  ⟨⟨trivial, trivial, trivial, trivial⟩, (fun i h => by simp [RowA, idsA, idsC] at h), by show WeakL _ _; exact .refl _, .g _ fun j hj => by
    match j, hj with
    | 0, _ => exact .c _
    | 1, _ => exact .c _
    | 2, _ => exact .l _ _ (by rw [← UnderL, underL_I]; trivial)⟩
theorem okR_rowf {i u j v : Int} {o p : List Int} {f : FuncId} : OkR (Under 0) (.f f [RowE i u o, RowE j v p]) := .f _ _ fun k hk => by
  match k, hk with
  | 0, _ => exact under_row
  | 1, _ => exact under_row
def maxP (pre : List (Int × Int)) : List Int := pre.map fun x => max x.1 x.2
def jn_base (i u j v : Int) (o p : List Int) (x : AV) : List (Nat × Blk) :=
  [(0, ⟨88, 3, [RowA i u o]⟩), (1, ⟨88, 3, [RowA j v p]⟩), (2, ⟨88, 3, [.g [.c (.int .i64 0), .c (.int .i64 0), .c (.slice none 0 0)]]⟩), (3, ⟨59, 1, [x]⟩)]
def jn_I (i u j v : Int) (o p : List Int) : List (Int × Int) → Mem
  | [] => ⟨jn_base i u j v o p (.c (.slice none 0 0)), 4⟩
  | x :: xs => ⟨jn_base i u j v o p (.s 5 0 (xs.length + 1)) ++ [(5, ⟨2, 1, (maxP (x :: xs)).map encI⟩)], 6⟩
theorem exp_row' {M : Mem} {a b v : Value} {id off n : Nat} {T : TypeId} {sz : Nat} {xs ys : List AV} (h : M.get id = some ⟨T, sz, ys⟩) (hn : off + n = ys.length) (hd : ys.drop off = xs) (hp : PureL ys) :
    Exp M (.t [.g [.c a, .c b, .s id off n], .c v]) (.t [.g [.c a, .c b, .l sz xs], .c v]) := by
  refine ⟨[], [id], ?_, by simp, by simp⟩
  have hc : ∀ z, ExpC M (.c z) (.c z) [] [] := fun z => expC_pure (.refl _) (.c _)
  refine ⟨[], [], [id], [], rfl, rfl, ⟨[], [], [], [id], rfl, rfl, hc _, [], [], [], [id], rfl, rfl, hc _, [], [], [id], [], rfl, rfl, ⟨rfl, rfl, _, h, by simpa using hn, rfl, hd, hp⟩, rfl, rfl⟩, [], [], [], [], rfl, rfl, hc _, rfl, rfl⟩
end Go.Ab
