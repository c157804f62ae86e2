/- Rights: what is asked; a row of books that is changed. -/
import Derived.Test.YtblnakmeaokemadRt5
import Derived.Test.YtblnakmeaokemadAbG8
set_option linter.unusedSimpArgs false
set_option linter.unusedVariables false
set_option linter.constructorNameAsVariable false
set_option maxRecDepth 100000
namespace Go.Ab
open Go Go.Proofs Go.RowKit

def askC (c : Conf) (l : List RowD) (w a : Int) : Int := if RightB c l ∧ There c w then (if 1 ≤ a ∧ a ≤ 1099511627776 then 0 else 2) else 1
theorem cloneI_call (l : List Int) (h0 : l ≠ []) (hl : l.length ≤ 1000000000) : PCall Try.prog 64 [.l 1 (l.map encI)] (.o 2 1 (l.map encI)) := by
  refine pcall_body tabOk Try.func64 rfl rfl (by rw [Try.ntmps64]; simp) ?_
  simp only [Try.ntmps64]
  simp only [↓wt, wu, wk0, wk1, wk2, wk3, Nat.reduceAdd, Nat.reduceEqDiff, Nat.reduceLeDiff, Nat.reduceLT, Nat.reduceMul, Int.reduceLE, Int.reduceLT, Int.reduceEq, Int.reduceNe, wk4, laidS, keepS, nilBinK]
  intro b hb
  have hb : b = false := by
    cases b
    · rfl
    · exact absurd (by simpa using hb rfl) h0
  subst hb
  simp only [↓wt, wu, wk0, wk1, wk2, wk3, Nat.reduceAdd, Nat.reduceEqDiff, Nat.reduceLeDiff, Nat.reduceLT, Nat.reduceMul, Int.reduceLE, Int.reduceLT, Int.reduceEq, Int.reduceNe, wk4, laidS, keepS]
  repeat (refine And.intro (by omega) ?_)
  simp only [↓wt, wu, wk0, wk1, wk2, wk3, Nat.reduceAdd, Nat.reduceEqDiff, Nat.reduceLeDiff, Nat.reduceLT, Nat.reduceMul, Int.reduceLE, Int.reduceLT, Int.reduceEq, Int.reduceNe, wk4, laidS, keepS, Try.results64]
  exact exp_own rfl (by simp) (pureI l)
/-- Books of the call's own, with a row whose numbers are the call's own, too. -/
def chM (l : List RowD) (w : Nat) (i u : Int) (o : List Int) : Mem := ⟨[(0, ⟨88, 3, (l.map RowV).set w (.g [.c (.int .i64 i), .c (.int .i64 u), .s 1 0 o.length])⟩), (1, ⟨2, 1, o.map encI⟩)], 2⟩
/-- The closures that change a row. -/
theorem store_set {l : List AV} {w : Nat} {x y : AV} : (l.set w x).set w y = l.set w y := List.set_set ..
theorem mapI_set {o : List Int} {k : Nat} {v : Int} : (o.map encI).set k (.c (.int .i64 v)) = (o.set k v).map encI := by rw [← encI_eq]; exact List.map_set.symm
end Go.Ab
