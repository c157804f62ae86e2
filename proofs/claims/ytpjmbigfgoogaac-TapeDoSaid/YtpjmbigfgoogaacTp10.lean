/- Tapes that came in. -/
import Derived.Test.YtpjmbigfgoogaacTp9
import Derived.Test.YtpjmbigfgoogaacAb39
set_option linter.unusedSimpArgs false
set_option linter.unusedVariables false
set_option linter.constructorNameAsVariable false
set_option maxRecDepth 100000
namespace Go.Ab
open Go Go.Proofs Go.RowKit Go.ChangeShapes Go.WideShapes Go.ChangeAt

theorem bytes_opener : Opener Try.prog 22 (fun l : List UInt8 => .l 1 (l.map encB)) (fun _ => True) := Opener.bytes Try.underlying22 Try.underlying5 ti5 rfl
theorem area_opener : Opener Try.prog 25 (fun a : List UInt8 × List UInt8 × Unit => AreaA a.1 a.2.1) (fun _ => True) := by
  refine Opener.map (Opener.struct ti25 rfl (by simp [cellsOf_tok ti22]) (FOpener.cons bytes_opener ti22 (.cons bytes_opener ti22 .nil))) id fun a _ => ⟨rfl, trivial⟩
theorem tape_opener : Opener Try.prog 27 (fun t : Tape4 => tv t) (fun _ => True) := by
  refine Opener.map (Opener.struct ti27 rfl (by simp [cellsOf_tok ti25]) (FOpener.cons area_opener ti25 (.cons area_opener ti25 .nil))) (fun a => ⟨a.1.1, a.1.2.1, a.2.1.1, a.2.1.2.1⟩) fun a _ => ⟨rfl, trivial⟩
theorem open_tape {H : Type} {encH : TypeId × Value → H} {W : World} {base : Nat} {v : Value} {d : DataW H} {ps : List MemPlace} (hval : Value.okWide Try.prog W .any base 27 v) (hd : DataW.Trod encH Try.prog W 0 (fun _ => true) true 27 v d ps) :
    ∃ t, Rep (E0 W) (tv t) v := by
  obtain ⟨a, _, h⟩ := tape_opener.arg ti27 (fun a => ⟨_, rfl⟩) hval hd
  exact ⟨_, h⟩
theorem open_bool {H : Type} {encH : TypeId × Value → H} {W : World} {base : Nat} {v : Value} {d : DataW H} {ps : List MemPlace} (hval : Value.okWide Try.prog W .any base 4 v) (hd : DataW.Trod encH Try.prog W 0 (fun _ => true) true 4 v d ps) :
    ∃ b, Rep (E0 W) (.c (.bool b)) v := by
  obtain ⟨a, _, h⟩ := (Opener.bool Try.underlying4).arg ti4 (fun a cs => nofun) hval hd
  exact ⟨_, h⟩
end Go.Ab
