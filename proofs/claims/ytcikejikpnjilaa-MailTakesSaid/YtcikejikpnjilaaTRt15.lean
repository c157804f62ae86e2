/- Rights: the laws RightsShares, RightsMeet, RightsKeep. Rights: the law RightsKeep. Rights: configs, books and numbers that came in. -/
import Derived.Test.YtcikejikpnjilaaTRt12
import Derived.Test.YtcikejikpnjilaaAbG6
import Derived.Test.YtcikejikpnjilaaAbG7
import Derived.Test.YtcikejikpnjilaaAbG8
set_option linter.unusedSimpArgs false
set_option linter.unusedVariables false
set_option linter.constructorNameAsVariable false
set_option maxRecDepth 100000
namespace Go.Ab
open Go Go.Proofs Go.RowKit

theorem newB_at {c : Conf} (h : MayC c) {k : Nat} (hk : k < c.n.toNat) : rowAt (newB c) k = ⟨0, 0, List.replicate c.n.toNat 0⟩ := by
  rw [newB, if_pos h, rowAt, List.getD_eq_getElem?_getD, List.getElem?_eq_getElem (by simpa using hk)]
  simp
theorem newB_length {c : Conf} (h : MayC c) : (newB c).length = c.n.toNat := by rw [newB, if_pos h, List.length_replicate]
theorem rep_getD {n k : Nat} : (List.replicate n (0 : Int)).getD k 0 = 0 := by
  rw [List.getD_eq_getElem?_getD, List.getElem?_replicate]
  split <;> rfl
theorem newB_rows {c : Conf} (h : MayC c) : RowsOk c (newB c) := by
  have hn := h.1
  refine ⟨by rw [newB_length h]; omega, fun k hk => ?_⟩
  rw [newB_length h] at hk
  rw [newB_at h hk]
  have hc := h.2.2.2.2.2.1
  refine ⟨⟨⟨by omega, by omega⟩, by simp; omega, show Within 0 1099511627776 from ⟨by decide, by decide⟩, show Within 0 1099511627776 from ⟨by decide, by decide⟩, rep_getD, fun v hv => ?_⟩, hc.1⟩
  rw [List.eq_of_mem_replicate hv]
  exact ⟨by decide, by decide⟩
theorem newB_of {c : Conf} (h : MayC c) {w : Nat} (hw : w < c.n.toNat) : ofC c (newB c) w = shareC c w := by
  have hn := h.1
  have h1 : came (newB c) w (newB c).length = 0 := by
    unfold came
    rw [isum_congr (g := fun _ => 0) fun j hj => ?_, isum_zero]
    rw [newB_length h] at hj
    rw [newB_at h hj]
    exact rep_getD
  have h2 : sentR (List.replicate c.n.toNat (0 : Int)) = 0 := by
    rw [sent_isum (by simp; omega) fun v hv => by rw [List.eq_of_mem_replicate hv]; exact ⟨by decide, by decide⟩]
    rw [isum_congr (g := fun _ => 0) fun j hj => rep_getD, isum_zero]
  unfold ofC
  rw [newB_at h hw, h1, h2]
  dsimp only
  omega
theorem newB_right {c : Conf} (h : MayC c) : RightB c (newB c) := by
  refine ⟨h, newB_rows h, fun k hk => ?_⟩
  rw [newB_length h] at hk
  rw [newB_of h hk]
  exact (share_bnd c k).1
end Go.Ab

set_option linter.unusedSimpArgs false
set_option linter.unusedVariables false
set_option linter.constructorNameAsVariable false
set_option maxRecDepth 100000
namespace Go.Ab
open Go Go.Proofs Go.RowKit

end Go.Ab

set_option linter.unusedSimpArgs false
set_option linter.unusedVariables false
set_option linter.constructorNameAsVariable false
set_option maxRecDepth 100000
namespace Go.Ab
open Go Go.Proofs Go.RowKit Go.ChangeShapes Go.WideShapes Go.ChangeAt

theorem int_opener : Opener Try.prog 3 (fun n : Int => .c (.int .i64 n)) (fun n => -9223372036854775808 ≤ n ∧ n < 9223372036854775808) :=
  Opener.map (.int Try.underlying3) id fun n h => ⟨rfl, wf_i64 h⟩
theorem i64_opener : Opener Try.prog 2 (fun n : Int => .c (.int .i64 n)) (fun n => -9223372036854775808 ≤ n ∧ n < 9223372036854775808) :=
  Opener.map (.int Try.underlying2) id fun n h => ⟨rfl, wf_i64 h⟩
theorem conf_opener : Opener Try.prog 23 ConfA (fun _ => True) := by
  refine Opener.map (Opener.struct ti23 rfl (by simp [cellsOf_tok ti3, cellsOf_tok ti2]) (FOpener.cons int_opener ti3 (.cons int_opener ti3 (.cons int_opener ti3 (.cons int_opener ti3 (.cons i64_opener ti2 (.cons i64_opener ti2 .nil))))))) (fun a => ⟨a.1, a.2.1, a.2.2.1, a.2.2.2.1, a.2.2.2.2.1, a.2.2.2.2.2.1⟩) fun a _ => ⟨rfl, trivial⟩
theorem row_opener : Opener Try.prog 60 RowV (fun r => r.o.length < 4611686018427387904) := by
  refine Opener.map (Opener.struct ti60 rfl (by simp [cellsOf_tok ti2, cellsOf_tok ti53]) (FOpener.cons i64_opener ti2 (.cons i64_opener ti2 (.cons (.sliceB Try.underlying53 i64_opener ti2 (by decide)) ti53 .nil)))) (fun a => ⟨a.1, a.2.1, a.2.2.1⟩) fun a h => ⟨rfl, ?_⟩
  have := h.2.2.1.1
  simp only [reachBytes] at this ⊢
  omega
theorem books_opener : Opener Try.prog 26 BooksV Wide := by
  refine Opener.map (.sliceB Try.underlying26 row_opener ti60 (by decide)) id fun a h => ⟨rfl, ?_⟩
  have := h.1
  simp only [reachBytes] at this
  refine ⟨by show a.length < _; omega, fun k => ?_⟩
  show (rowAt a k).o.length < _
  unfold rowAt
  rw [List.getD_eq_getElem?_getD]
  cases e : a[k]? with
  | none => simp
  | some r => exact h.2 r (List.mem_of_getElem? e)
end Go.Ab
