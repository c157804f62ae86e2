/- Store: what came in: tapes, bytes, numbers. -/
import Derived.Test.YtdnhojfkjgggbaaDoorFo1
import Derived.Test.YtdnhojfkjgggbaaDoorSt7
set_option linter.unusedSimpArgs false
set_option linter.unusedVariables false
set_option linter.constructorNameAsVariable false
set_option maxRecDepth 100000
namespace Go.Ab
open Go Go.Proofs Go.RowKit Go.ChangeShapes Go.WideShapes Go.ChangeAt

theorem bytes_openerW : Opener Tryd.prog 22 Bs (fun l => l.length ≤ 1000000000000000) := by
  refine Opener.map (.sliceB Tryd.underlying22 (.int Tryd.underlying5) ti5 (by decide)) (fun l : List Int => l.map fun n => UInt8.ofNat n.toNat) fun l h => ⟨?_, ?_⟩
  · show AV.l 1 _ = Bs _
    rw [Bs, List.map_map]
    congr 1
    refine List.map_congr_left fun n hn => ?_
    obtain ⟨a, rfl, b⟩ := wf_u8 (h.2 n hn)
    simp only [Function.comp, encB, Int.toNat_natCast]
    congr 2
    rw [UInt8.toNat_ofNat_of_lt' (by omega)]
  · have := h.1
    simp only [reachBytes] at this
    rw [List.length_map]
    omega
theorem area_openerW : Opener Tryd.prog 36 (fun a : List UInt8 × List UInt8 × Unit => AreaA a.1 a.2.1) (fun a => a.1.length ≤ 1000000000000000 ∧ a.2.1.length ≤ 1000000000000000) := by
  refine Opener.map (Opener.struct ti36 rfl (by simp [cellsOf_tok ti22]) (FOpener.cons bytes_openerW ti22 (.cons bytes_openerW ti22 .nil))) id fun a h => ⟨rfl, h.1, h.2.1⟩
theorem tape_openerW : Opener Tryd.prog 38 (fun t : Tape4 => tv t) (fun t => t.Wd) := by
  refine Opener.map (Opener.struct ti38 rfl (by simp [cellsOf_tok ti36]) (FOpener.cons area_openerW ti36 (.cons area_openerW ti36 .nil))) (fun a => ⟨a.1.1, a.1.2.1, a.2.1.1, a.2.1.2.1⟩) fun a h => ⟨rfl, h.1.1, h.1.2, h.2.1.1, h.2.1.2⟩
theorem int_openerW : Opener Tryd.prog 3 (fun n : Int => .c (.int .i64 n)) (fun n => -9223372036854775808 ≤ n ∧ n < 9223372036854775808) :=
  Opener.map (.int Tryd.underlying3) id fun n h => ⟨rfl, wf_i64 h⟩
theorem bytesL_openerW : Opener Tryd.prog 24 (fun l : List (List UInt8) => .l 1 (l.map Bs)) (fun l => l.length ≤ 1000000000000000 ∧ ∀ p ∈ l, p.length ≤ 1000000000000000) := by
  refine Opener.map (.sliceB Tryd.underlying24 bytes_openerW ti22 (by decide)) id fun a h => ⟨rfl, ?_, h.2⟩
  have := h.1
  simp only [reachBytes] at this
  show a.length ≤ _
  omega
end Go.Ab
