/- Paint: what came in: bytes, numbers of 16 bits. -/
import Derived.Test.YtcikejikpnjilaaTPn5
import Derived.Test.YtcikejikpnjilaaTRt15
import Derived.Test.YtcikejikpnjilaaAbG7
set_option linter.unusedSimpArgs false
set_option linter.unusedVariables false
set_option linter.constructorNameAsVariable false
set_option maxRecDepth 100000
namespace Go.Ab
open Go Go.Proofs Go.RowKit Go.ChangeShapes Go.WideShapes Go.ChangeAt

theorem wf_u16 {n : Int} (h : (Lit.int .u16 n).wf = true) : ∃ a : Nat, n = a ∧ a < 65536 := by
  simp only [Lit.wf, Bool.and_eq_true, decide_eq_true_eq, IntKind.min, IntKind.max, IntKind.signed, IntKind.bits] at h
  simp at h
  exact ⟨n.toNat, by omega, by omega⟩
theorem u16_opener : Opener Try.prog 43 (fun n : Nat => .c (.int .u16 n)) (fun n => n < 65536) :=
  Opener.map (.int Try.underlying43) (fun n => n.toNat) fun n h => by
    obtain ⟨a, rfl, ha⟩ := wf_u16 h
    exact ⟨rfl, by simpa using ha⟩
theorem bytes_openerZ : Opener Try.prog 24 Bs (fun l => l.length < 4611686018427387904) := by
  refine Opener.map (.sliceB Try.underlying24 (.int Try.underlying5) ti5 (by decide)) (fun l : List Int => l.map fun n => UInt8.ofNat n.toNat) fun l h => ⟨?_, ?_⟩
  · show AV.l 1 _ = Bs _
    rw [Bs, List.map_map]
    congr 1
    refine List.map_congr_left fun n hn => ?_
    obtain ⟨a, rfl, b⟩ := wf_u8 (h.2 n hn)
    simp only [Function.comp, encB, Int.toNat_natCast]
    congr 2
    rw [UInt8.toNat_ofNat_of_lt' (by omega)]
  · have := h.1
    simp only [reachBytes] at this
    rw [List.length_map]
    omega
end Go.Ab
