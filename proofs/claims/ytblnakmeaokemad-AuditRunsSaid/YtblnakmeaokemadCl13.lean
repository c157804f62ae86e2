/- Claims: notes, messages and stamps that came in. -/
import Derived.Test.YtblnakmeaokemadCl2
import Derived.Test.YtblnakmeaokemadRt17
import Derived.Test.YtblnakmeaokemadAbG6
import Derived.Test.YtblnakmeaokemadAbG7
import Derived.Test.YtblnakmeaokemadAbG8
set_option linter.unusedSimpArgs false
set_option linter.unusedVariables false
set_option linter.constructorNameAsVariable false
set_option maxRecDepth 100000
namespace Go.Ab
open Go Go.Proofs Go.RowKit Go.ChangeShapes Go.WideShapes Go.ChangeAt

theorem stamp_opener : Opener Try.prog 28 (fun x : Int × Int => StA x.1 x.2) (fun _ => True) :=
  Opener.map (Opener.struct ti28 rfl (by simp [cellsOf_tok ti3, cellsOf_tok ti2]) (FOpener.cons i64_opener ti2 (.cons int_opener ti3 .nil))) (fun a => (a.1, a.2.1)) fun a _ => ⟨rfl, trivial⟩
theorem look_opener : Opener Try.prog 38 LookV (fun _ => True) :=
  Opener.map (Opener.struct ti38 rfl (by simp [cellsOf_tok ti3, cellsOf_tok ti2]) (FOpener.cons i64_opener ti2 (.cons int_opener ti3 .nil))) (fun a => (a.1, a.2.1)) fun a _ => ⟨rfl, trivial⟩
theorem request_opener : Opener Try.prog 30 (fun x : Int × Int × Int => ReqV x.1 x.2.1 x.2.2) (fun _ => True) :=
  Opener.map (Opener.struct ti30 rfl (by simp [cellsOf_tok ti28, cellsOf_tok ti2]) (FOpener.cons stamp_opener ti28 (.cons i64_opener ti2 .nil))) (fun a => (a.1.1, a.1.2, a.2.1)) fun a _ => ⟨rfl, trivial⟩
theorem note_opener : Opener Try.prog 40 NoteV (fun _ => True) :=
  Opener.map (Opener.struct ti40 rfl (by simp [cellsOf_tok ti2, cellsOf_tok ti3, cellsOf_tok ti30, cellsOf_tok ti38]) (FOpener.cons i64_opener ti2 (.cons request_opener ti30 (.cons int_opener ti3 (.cons look_opener ti38 .nil)))))
    (fun a => ⟨a.1, a.2.1.1, a.2.1.2.1, a.2.1.2.2, a.2.2.1, a.2.2.2.1.1, a.2.2.2.1.2⟩) fun a _ => ⟨rfl, trivial⟩
theorem notes_opener : Opener Try.prog 24 NotesV (fun l => l.length < 4611686018427387904) := by
  refine Opener.map (.sliceB Try.underlying24 note_opener ti40 (by decide)) id fun a h => ⟨rfl, ?_⟩
  have := h.1
  simp only [reachBytes] at this
  show a.length < _
  omega
theorem looks_opener : Opener Try.prog 43 (fun l : List (Int × Int) => .l 2 (l.map LookV)) (fun l => l.length < 4611686018427387904) := by
  refine Opener.map (.sliceB Try.underlying43 look_opener ti38 (by decide)) id fun a h => ⟨rfl, ?_⟩
  have := h.1
  simp only [reachBytes] at this
  show a.length < _
  omega
theorem mail_opener : Opener Try.prog 45 MailV (fun m => Wide m.r ∧ m.e.length < 4611686018427387904) :=
  Opener.map (Opener.struct ti45 rfl (by simp [cellsOf_tok ti2, cellsOf_tok ti3, cellsOf_tok ti30, cellsOf_tok ti38, cellsOf_tok ti42, cellsOf_tok ti43])
    (FOpener.cons int_opener ti3 (.cons int_opener ti3 (.cons i64_opener ti2 (.cons books_opener ti42 (.cons request_opener ti30 (.cons int_opener ti3 (.cons look_opener ti38 (.cons looks_opener ti43 .nil)))))))))
    (fun a => ⟨a.1, a.2.1, a.2.2.1, a.2.2.2.1, a.2.2.2.2.1.1, a.2.2.2.2.1.2.1, a.2.2.2.2.1.2.2, a.2.2.2.2.2.1, a.2.2.2.2.2.2.1.1, a.2.2.2.2.2.2.1.2, a.2.2.2.2.2.2.2.1⟩) fun a h => ⟨rfl, h.2.2.2.1, h.2.2.2.2.2.2.2.1⟩
end Go.Ab
