/- Rights: put, taken, moved: the program's. -/
import Derived.Test.YtblnakmeaokemadRt6
set_option linter.unusedSimpArgs false
set_option linter.unusedVariables false
set_option linter.constructorNameAsVariable false
set_option maxRecDepth 100000
namespace Go.Ab
open Go Go.Proofs Go.RowKit

theorem ask_zero {c : Conf} {l : List RowD} {w a : Int} (h : askC c l w a = 0) : RightB c l ∧ There c w ∧ 1 ≤ a ∧ a ≤ 1099511627776 := by
  unfold askC at h
  split at h
  · split at h
    · rename_i h1 h2; exact ⟨h1.1, h1.2, h2⟩
    · omega
  · omega
def putR (c : Conf) (l : List RowD) (w a : Int) : List RowD × Int :=
  if askC c l w a ≠ 0 then ([], askC c l w a) else if c.c < (rowAt l w.toNat).i + a then ([], 4) else
    (l.set w.toNat ⟨(rowAt l w.toNat).i + a, (rowAt l w.toNat).u, (rowAt l w.toNat).o⟩, 0)
def takeR (c : Conf) (l : List RowD) (w a : Int) : List RowD × Int :=
  if askC c l w a ≠ 0 then ([], askC c l w a) else if ofC c l w.toNat < a then ([], 7) else if 1099511627776 < (rowAt l w.toNat).u + a then ([], 6) else
    (l.set w.toNat ⟨(rowAt l w.toNat).i, (rowAt l w.toNat).u + a, (rowAt l w.toNat).o⟩, 0)
def moveR (c : Conf) (l : List RowD) (w to a : Int) : List RowD × Int :=
  if ¬ There c to ∨ w = to then ([], 1) else if askC c l w a ≠ 0 then ([], askC c l w a) else if ofC c l w.toNat < a then ([], 7) else
    if 1125899906842624 < (rowAt l w.toNat).o.getD to.toNat 0 + a then ([], 6) else
    (l.set w.toNat ⟨(rowAt l w.toNat).i, (rowAt l w.toNat).u, (rowAt l w.toNat).o.set to.toNat ((rowAt l w.toNat).o.getD to.toNat 0 + a)⟩, 0)
def BooksC (p : List RowD × Int) : AV := .t [BooksV p.1, .c (.int .i64 p.2)]
theorem expR_nil {M : Mem} {p : List RowD × Int} {e : Int} (h : p = ([], e)) : Exp M (.t [.c (.slice none 0 0), .c (.int .i64 e)]) (BooksC p) := by
  subst h
  exact exp_tA (xT_cons xA_nil (xT_cons xA_c xT_nil))
theorem expR_some {M : Mem} {p : List RowD × Int} {l : List RowD} {e : Int} (h : p = (l, e)) : Exp M (.t [.l 3 (l.map RowV), .c (.int .i64 e)]) (BooksC p) := by
  subst h
  exact exp_tA (xT_cons (xA_pure weak_l (.l _ _ (pureR l))) (xT_cons xA_c xT_nil))
theorem arg_fe {M : Mem} {ids : List Nat} {fn : FuncId} {cs : List AV} (h : ∀ a ∈ cs, Under 0 a) : VOkA M (.f fn cs) ∧ (∀ k ∈ idsA (.f fn cs), k ∈ ids) ∧ Weak (viewA M (.f fn cs)) (.f fn cs) ∧ Under 0 (.f fn cs) :=
  ⟨trivial, (fun i h => by simp [idsA, idsC] at h), by unfold Weak; exact .refl _, .f _ _ fun i hi => h _ (List.getElem_mem hi)⟩
theorem under_ei {k : Nat} {n : Int} : Under k (.e [.c (.int .i64 n)]) := by rw [under_e]; simp [under_c]
/-- What stands of right books at a replica. -/
theorem right_at {c : Conf} {l : List RowD} (h : RightB c l) {w : Int} (hw : There c w) : w.toNat < l.length ∧ ((w.toNat : Nat) : Int) = w ∧ l.length ≤ 16 ∧ (l.length : Int) = c.n ∧ (rowAt l w.toNat).o.length = l.length ∧ (rowAt l w.toNat).o ≠ [] ∧
    (0 ≤ (rowAt l w.toNat).i ∧ (rowAt l w.toNat).i ≤ 1099511627776) ∧ (0 ≤ (rowAt l w.toNat).u ∧ (rowAt l w.toNat).u ≤ 1099511627776) ∧ c.c ≤ 1099511627776 ∧ (∀ k, 0 ≤ (rowAt l w.toNat).o.getD k 0 ∧ (rowAt l w.toNat).o.getD k 0 ≤ 1125899906842624) := by
  have h1 := there_nat h hw
  have h2 := h.2.1.row h.1 h1.2
  have h3 := h.1.2.2.2.2.2.1
  have h4 := h.2.1.1
  refine ⟨h1.2, h1.1, h2.2.1, h4, h2.1, fun e => ?_, h2.2.2.1, h2.2.2.2.1, h3.2, fun k => within_getD h2.2.2.2.2.1 k⟩
  rw [e] at h2
  have := h2.1
  simp at this
  omega
end Go.Ab
