/- Claims: answers that the document fixes; what isn't too much. -/
import Derived.Test.YtblnakmeaokemadCl9
import Derived.Test.YtblnakmeaokemadRt2
set_option linter.unusedSimpArgs false
set_option linter.unusedVariables false
set_option linter.constructorNameAsVariable false
set_option maxRecDepth 100000
namespace Go.Ab
open Go Go.Proofs Go.RowKit

def cw0 : Conf := ⟨2, 1, 1, 1, 0, 0⟩
def nw1 : NoteD := ⟨4, 3, 1, 5, 1, 0, 0⟩
theorem old_w : oldestR cw0 0 [note0, nw1] = some nw1 := by decide
theorem on_w1 : decide (OnC cw0 nw1) = true := by decide
theorem on_w2 : decide (OnC cw0 ⟨4, 3, 1, 5, 0, 0, 0⟩) = false := by decide
theorem calls_w : callsO (oldestR cw0 0 [note0, nw1]) 0 0 0 = (1, true) := by decide
set_option maxHeartbeats 2000000 in
theorem awake14_call : PCall Try.prog 9 [] (.c (.bool true)) := by
  refine pcall_body tabOk Try.func9 rfl rfl (by rw [Try.ntmps9]; simp) ?_
  simp only [Try.ntmps9]
  simp only [↓wt, wu, wk0, wk1, wk2, wk3, Nat.reduceAdd, Nat.reduceEqDiff, Nat.reduceLeDiff, Nat.reduceLT, Nat.reduceMul, Int.reduceLE, Int.reduceLT, Int.reduceEq, Int.reduceNe, wk4, laidS, keepS]
  have m1 : PCall Try.prog 11 [ConfA cw0, .c (.int .i64 0), NotesV [note0, nw1]] (.t [ReqV 3 1 5, .c (.bool true)]) := by
    have := oldest_call cw0 0 [note0, nw1] (by simp)
    rw [old_w] at this
    exact this
  have m2 : PCall Try.prog 12 [ConfA cw0, .c (.int .i64 0), NotesV [note0, nw1], ReqV 0 0 0] (.t [.c (.int .i64 1), .c (.bool true)]) := by
    have := calls_call cw0 0 [note0, nw1] 0 0 0 (by simp)
    rw [calls_w] at this
    exact this
  refine icall_drop [2] m1 ⟨arg_conf' (c := cw0), arg_c, arg_own (by simp) rfl rfl (pureN [note0, nw1]), trivial⟩ ⟨⟨.c _, .c _, .c _, trivial⟩, .c _, trivial⟩ ?_
  simp only [↓wt, wu, wk0, wk1, wk2, wk3, Nat.reduceAdd, Nat.reduceEqDiff, Nat.reduceLeDiff, Nat.reduceLT, Nat.reduceMul, Int.reduceLE, Int.reduceLT, Int.reduceEq, Int.reduceNe, wk4, laidS, keepS, OldV, ReqV]
  refine icall_drop [4] m2 ⟨arg_conf' (c := cw0), arg_c, arg_own (by simp) rfl rfl (pureN [note0, nw1]), arg_req, trivial⟩ ⟨.c _, .c _, trivial⟩ ?_
  simp only [↓wt, wu, wk0, wk1, wk2, wk3, Nat.reduceAdd, Nat.reduceEqDiff, Nat.reduceLeDiff, Nat.reduceLT, Nat.reduceMul, Int.reduceLE, Int.reduceLT, Int.reduceEq, Int.reduceNe, wk4, laidS, keepS]
  refine icall_drop [] (on_call cw0 nw1) ⟨arg_conf' (c := cw0), arg_note (n := nw1), trivial⟩ (.c _) ?_
  simp only [↓wt, wu, wk0, wk1, wk2, wk3, Nat.reduceAdd, Nat.reduceEqDiff, Nat.reduceLeDiff, Nat.reduceLT, Nat.reduceMul, Int.reduceLE, Int.reduceLT, Int.reduceEq, Int.reduceNe, wk4, laidS, keepS, on_w1]
  refine icall_drop [] (on_call cw0 ⟨4, 3, 1, 5, 0, 0, 0⟩) ⟨arg_conf' (c := cw0), arg_noteR, trivial⟩ (.c _) ?_
  simp only [↓wt, wu, wk0, wk1, wk2, wk3, Nat.reduceAdd, Nat.reduceEqDiff, Nat.reduceLeDiff, Nat.reduceLT, Nat.reduceMul, Int.reduceLE, Int.reduceLT, Int.reduceEq, Int.reduceNe, wk4, laidS, keepS, on_w2, Try.results9]
  exact exp_c
def LightC (l : List NoteD) (m : MailD) : Prop := l.length ≤ 40 ∧ m.e.length ≤ 40 ∧ ShortB m.r
instance (l : List NoteD) (m : MailD) : Decidable (LightC l m) := by unfold LightC; infer_instance
theorem light14_call (l : List NoteD) (m : MailD) (hw : Wide m.r) : PCall Try.prog 17 [NotesV l, MailV m] (.c (.bool (decide (LightC l m)))) := by
  refine pcall_body tabOk Try.func17 rfl rfl (by rw [Try.ntmps17]; simp) ?_
  simp only [Try.ntmps17, NotesV, MailV]
  simp only [↓wt, wu, wk0, wk1, wk2, wk3, Nat.reduceAdd, Nat.reduceEqDiff, Nat.reduceLeDiff, Nat.reduceLT, Nat.reduceMul, Int.reduceLE, Int.reduceLT, Int.reduceEq, Int.reduceNe, wk4, laidS, keepS]
  repeat' (first | (refine r_casesD (fun hp hb => ?_) (fun hp hb => ?_) <;> simp only [↓wt, wu, wk0, wk1, wk2, wk3, Nat.reduceAdd, Nat.reduceEqDiff, Nat.reduceLeDiff, Nat.reduceLT, Nat.reduceMul, Int.reduceLE, Int.reduceLT, Int.reduceEq, Int.reduceNe, wk4, laidS, keepS, Try.results17, hb]) | (refine r_casesN (fun hp hb => ?_) (fun hp hb => ?_) <;> simp only [↓wt, wu, wk0, wk1, wk2, wk3, Nat.reduceAdd, Nat.reduceEqDiff, Nat.reduceLeDiff, Nat.reduceLT, Nat.reduceMul, Int.reduceLE, Int.reduceLT, Int.reduceEq, Int.reduceNe, wk4, laidS, keepS, Try.results17, hb]) | (refine r_casesM (fun hp hb => ?_) (fun hp hb => ?_) <;> simp only [↓wt, wu, wk0, wk1, wk2, wk3, Nat.reduceAdd, Nat.reduceEqDiff, Nat.reduceLeDiff, Nat.reduceLT, Nat.reduceMul, Int.reduceLE, Int.reduceLT, Int.reduceEq, Int.reduceNe, wk4, laidS, keepS, Try.results17, hb]) | (refine r_casesB (fun hp hb => ?_) (fun hp hb => ?_) <;> simp only [↓wt, wu, wk0, wk1, wk2, wk3, Nat.reduceAdd, Nat.reduceEqDiff, Nat.reduceLeDiff, Nat.reduceLT, Nat.reduceMul, Int.reduceLE, Int.reduceLT, Int.reduceEq, Int.reduceNe, wk4, laidS, keepS, Try.results17, hb]) | (refine r_gcasesD (fun hp hb => ?_) (fun hp hb => ?_) <;> simp only [↓wt, wu, wk0, wk1, wk2, wk3, Nat.reduceAdd, Nat.reduceEqDiff, Nat.reduceLeDiff, Nat.reduceLT, Nat.reduceMul, Int.reduceLE, Int.reduceLT, Int.reduceEq, Int.reduceNe, wk4, laidS, keepS, Try.results17, hb]) | (refine r_gcasesN (fun hp hb => ?_) (fun hp hb => ?_) <;> simp only [↓wt, wu, wk0, wk1, wk2, wk3, Nat.reduceAdd, Nat.reduceEqDiff, Nat.reduceLeDiff, Nat.reduceLT, Nat.reduceMul, Int.reduceLE, Int.reduceLT, Int.reduceEq, Int.reduceNe, wk4, laidS, keepS, Try.results17, hb]) | (refine r_gcasesM (fun hp hb => ?_) (fun hp hb => ?_) <;> simp only [↓wt, wu, wk0, wk1, wk2, wk3, Nat.reduceAdd, Nat.reduceEqDiff, Nat.reduceLeDiff, Nat.reduceLT, Nat.reduceMul, Int.reduceLE, Int.reduceLT, Int.reduceEq, Int.reduceNe, wk4, laidS, keepS, Try.results17, hb]) | (refine r_gcasesB (fun hp hb => ?_) (fun hp hb => ?_) <;> simp only [↓wt, wu, wk0, wk1, wk2, wk3, Nat.reduceAdd, Nat.reduceEqDiff, Nat.reduceLeDiff, Nat.reduceLT, Nat.reduceMul, Int.reduceLE, Int.reduceLT, Int.reduceEq, Int.reduceNe, wk4, laidS, keepS, Try.results17, hb]) | ((with_reducible refine And.intro ?_ ?_); omega) | fail)
  · refine icall_drop [] (short_call m.r hw) ⟨arg_books, trivial⟩ (.c _) ?_
    simp only [↓wt, wu, wk0, wk1, wk2, wk3, Nat.reduceAdd, Nat.reduceEqDiff, Nat.reduceLeDiff, Nat.reduceLT, Nat.reduceMul, Int.reduceLE, Int.reduceLT, Int.reduceEq, Int.reduceNe, wk4, laidS, keepS, Try.results17]
    exact exp_bE ⟨fun h => ⟨by omega, by omega, h⟩, fun h => h.2.2⟩
  all_goals exact exp_bF (p := LightC l m) fun h => by obtain ⟨g1, g2, g3⟩ := h; omega
end Go.Ab
