/- Rows that came in. -/
import Derived.Test.YtpjmbigfgoogaabRw16
import Derived.Test.YtpjmbigfgoogaabAb34
set_option linter.unusedSimpArgs false
set_option linter.unusedVariables false
set_option linter.constructorNameAsVariable false
set_option maxRecDepth 100000
namespace Go.Ab
open Go Go.Proofs Go.RowKit Go.ChangeShapes Go.WideShapes Go.ChangeAt

theorem row_opener : Opener Try.prog 24 (fun a : Int × Int × List Int × Unit => RowA a.1 a.2.1 a.2.2.1) (fun _ => True) := by
  have h := Opener.struct ti24 rfl (by simp [cellsOf_tok ti2, cellsOf_tok ti22]) (FOpener.cons (.int Try.underlying2) ti2 (.cons (.int Try.underlying2) ti2 (.cons (.slice Try.underlying22 (.int Try.underlying2) ti2 (by decide)) ti22 .nil)))
  intro H encH W fuel cs x hd
  obtain ⟨a, _, ho⟩ := h H encH W fuel cs x hd
  exact ⟨a, trivial, ho⟩
theorem open_row {H : Type} {encH : TypeId × Value → H} {W : World} {base : Nat} {v : Value} {d : DataW H} {ps : List MemPlace} (hval : Value.okWide Try.prog W .any base 24 v) (hd : DataW.Trod encH Try.prog W 0 (fun _ => true) true 24 v d ps) :
    ∃ i u o, Rep (E0 W) (RowA i u o) v := by
  obtain ⟨a, _, h⟩ := row_opener.arg ti24 (fun a => ⟨_, rfl⟩) hval hd
  exact ⟨_, _, _, h⟩
theorem rep4 {E : Env} {a b c d : AV} {v u w z : Value} (h : Rep E a v) (h' : Rep E b u) (h'' : Rep E c w) (h3 : Rep E d z) : ∀ i (h1 : i < [a, b, c, d].length) (h2 : i < #[v, u, w, z].size), Rep E [a, b, c, d][i] #[v, u, w, z][i]
  | 0, _, _ => h
  | 1, _, _ => h'
  | 2, _, _ => h''
  | 3, _, _ => h3
theorem roworder_row (i u : Int) (o : List Int) (j v : Int) (p : List Int) (k w : Int) (q : List Int) : PCall Try.prog 3 [RowA i u o, RowA j v p, RowA k w q] (.c (.bool true)) := roworder_call i u j v k w o p q
theorem rowjoins_row (i u : Int) (o : List Int) (j v : Int) (p : List Int) (k w : Int) (q : List Int) : PCall Try.prog 4 [RowA i u o, RowA j v p, RowA k w q] (.c (.bool true)) := rowjoins_call i u j v k w o p q
theorem rowtells_row (i u : Int) (o : List Int) (j v : Int) (p : List Int) (n w : Int) : PCall Try.prog 5 [RowA i u o, RowA j v p, .c (.int .i64 n), .c (.int .i64 w)] (.c (.bool true)) := rowtells_call i u j v n w o p
theorem rowbehind_row (i u : Int) (o : List Int) (j v : Int) (p : List Int) (k w : Int) (q : List Int) : PCall Try.prog 6 [RowA i u o, RowA j v p, RowA k w q] (.c (.bool true)) := rowbehind_call i u j v k w o p q
end Go.Ab
